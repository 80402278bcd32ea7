/-
  Layer 16: the statement that fewer bytes are a beginning of more. Conditions: the program's variables lie as its text lays them.
-/
import Derived.Test.YtmgopjeaehmbfaaDoorLawHash1
import Derived.Test.YtmgopjeaehmbfaaDoorHash8
namespace Go.Proofs.YtmgopjeaehmbfaaDoor
open Go Go.RowKit
set_option maxRecDepth 100000
set_option linter.unusedVariables false
set_option linter.unusedSimpArgs false

set_option maxHeartbeats 16000000 in
theorem rows16_walk (key : List Byte) (p : Option Addr) (c : Nat) (ls : List (List Byte)) (q : Option Addr) (d : Nat) (J : BitVec 16) (w0 : World) (hk : RdB w0 p key) (hkc : key.length ≤ c) (hkm : key.length ≤ maxLen) (hl : RdR w0 q ls) (hld : ls.length ≤ d) (hlm : ls.length ≤ maxLen) (hc : Coef w0 ∧ CoefB w0) :
    Calls Tryd.prog 8 #[.slice p key.length c, .slice q ls.length d, v16 J] w0 fun e w' => e = .returned (.bool true) ∧ Ext w0 w' := by
  have hm := Own.start w0
  have HC := Lib.hid hc.1
  have HB := Lib.hid hc.2
  have HK := Lib.hid hk
  have HL := Lib.hid hl
  have CR := Lib.hid fun w => right15_any key p c w
  have FW := Lib.hid fun (w : World) (h : Ext w0 w) => few_any ls q d w hlm (hl.ext h)
  have KO := Lib.hid fun (h : rightL key = true) (w : World) (h1 : RdB w p key) (h2 : Coef w) (h3 : CoefB w) => keys16_ok key p c w h hkc h1 h2 h3
  have AW := Lib.hid fun (w : World) (h : Ext w0 w) => awake16 w ⟨hc.1.ext h, hc.2.ext h⟩
  have OKK := Lib.hid (keyOf_ok key)
  clear hc hk hl
  generalize keyOf key = K at *
  have hj : J.toNat < 65536 := J.isLt
  unfold v16
  generalize J.toNat = n at *
  by_cases hR : rightL key = true
  · rw [hR] at CR
    by_cases h2 : fewB ls = true
    · rw [h2] at FW
      by_cases h3 : 300 < n
      · have a3 : decide ((300 : Int) < (n : Int)) = true := decide_eq_true (by omega)
        have a4 : (300 : Int) < (n : Int) := by omega
        go_enter Tryd.func8, Tryd.ntmps8
        go_wp2_with (first | (go_at_call 19; (with_reducible refine (CR.out _).mono ?_); rintro e_ w_ ⟨rfl, rfl⟩) | (go_at_call 26; (with_reducible refine (FW.out _ hm.x).mono ?_); rintro e_ w ⟨rfl, hx_⟩; replace hm := hm.ext hx_; clear hx_) | fail)
        go_ret
        exact ⟨rfl, hm.x⟩
      · have a3 : decide ((300 : Int) < (n : Int)) = false := decide_eq_false (by omega)
        have a4 : ¬ (300 : Int) < (n : Int) := by omega
        obtain ⟨f1, f2⟩ := fewB_out h2
        have f3 : ∀ i, (ls.getD i []).length ≤ 70368744177000 := fun i => by have := f1 i; omega
        have PH := Lib.hid fun (w : World) (g : Nat) (h : KeyR w g K) (h' : RdR w q ls) => hhash_any (.pointer (some ⟨g, 0, none⟩)) rfl rfl (eZ K) (eZ_length K) ls q d w h' hld (by omega) f3 (fun wx hx j m x e1 e2 e3 => (h.ext hx).e j m x e1 e2 e3)
        have lA := hashG_length (eZ K) ls
        have hE := eZ_length K (-1) 3
        have PO := Lib.hid fun (N : Nat) (hN : N ≤ 65536) (w : World) (g : Nat) (h : KeyR w g K) (h' : RdR w q ls) => show Calls Tryd.prog 31 #[.pointer (some ⟨g, 0, none⟩), .slice q ls.length d, .int .i64 (N : Int)] w fun e w' => ∃ px cx, e = .returned (.tuple #[.slice px N cx, .int .i64 0]) ∧ N ≤ cx ∧ RdB w' px (prfL (eZ K (-1) 3) (hashG (eZ K) ls) N) ∧ Ext w w' from
          (prf_ok g N (eZ K) (eZ_length K) ls q d w h' hld (by omega) f3 hN (fun wx hx j m x e1 e2 e3 => (h.ext hx).e j m x e1 e2 e3)).mono fun e w' ⟨x, e1, ⟨px, cx, e2, e3, e4⟩, e5⟩ => by
            have hL := prfL_length (eZ K (-1) 3) hE (hashG (eZ K) ls) N
            rw [hL] at e2 e3
            exact ⟨px, cx, by rw [e1, e2], e3, e4, e5⟩
        have PO3 := Lib.hid (PO.out 300 (by omega))
        have POn := Lib.hid (PO.out n (by omega))
        have PE := Lib.hid fun (wx : World) (g : Nat) (h : KeyR wx g K) (x : List Byte) (h1 : x.length = 16) => h.e (-1) 3 x h1 (by omega) (by omega)
        generalize hashG (eZ K) ls = H at *
        generalize eZ K (-1) 3 = E at *
        have l3 := prfL_length E hE H 300
        have ln := prfL_length E hE H n
        have ET := prfL_take E hE H n 300 (by omega)
        obtain ⟨m, hm0⟩ : ∃ m : Nat, m = n / 16 := ⟨_, rfl⟩
        obtain ⟨i, hi0⟩ : ∃ i : Nat, i = m % 18 := ⟨_, rfl⟩
        obtain ⟨lo, hlo⟩ : ∃ lo : Nat, lo = 16 * i := ⟨_, rfl⟩
        obtain ⟨hi, hhi⟩ : ∃ hi : Nat, hi = 16 * i + 16 := ⟨_, rfl⟩
        have x1 : (n : Int) / 16 = (m : Int) := by omega
        have x2 : (n : Int).tdiv 16 = (m : Int) := by rw [Int.tdiv_eq_ediv_of_nonneg (by omega)]; exact x1
        have x3 : (m : Int) % 18 = (i : Int) := by omega
        have x4 : (m : Int).tmod 18 = (i : Int) := by rw [Int.tmod_eq_emod_of_nonneg (by omega)]; exact x3
        have y1 : (16 : Int) * (i : Int) = (lo : Int) := by omega
        have y2 : (lo : Int) + 16 = (hi : Int) := by omega
        have hi18 : (i : Int) < 18 := by omega
        have hh300 : (hi : Int) ≤ 300 := by omega
        have y3 : (lo : Int) ≤ (hi : Int) := by omega
        have y5 : hi - lo = 16 := by omega
        have y7 : lo ≤ hi := by omega
        have EC : Hid (setN H 15 (nth H 15 ^^^ BitVec.ofNat 8 i) = cntL H i) := Lib.hid (cntL_byte H lA i (by omega))
        have EB : Hid (((prfL E H 300).drop lo).take 16 = E (cntL H i)) := Lib.hid (by rw [hlo]; exact prfL_block E hE H 300 i (by omega))
        have lC := cntL_length H i
        have lY := hE (cntL H i)
        have PE1 := Lib.hid fun wx g h => PE.out wx g h (cntL H i) lC
        have hnn : n ≤ 300 := by omega
        clear hm0 hi0 hlo hhi PO f1 f2 f3 h3 PE
        generalize E (cntL H i) = Y at *
        generalize cntL H i = X at *
        generalize prfL E H 300 = D3 at *
        generalize prfL E H n = Dn at *
        have HE3 := Lib.hid l3
        have HEn := Lib.hid ln
        have HT := Lib.hid ET
        clear l3 ln ET
        go_enter Tryd.func8, Tryd.ntmps8
        go_wp2_with (first | (go_at_call 19; (with_reducible refine (CR.out _).mono ?_); rintro e_ w_ ⟨rfl, rfl⟩) | (go_at_call 26; (with_reducible refine (FW.out _ hm.x).mono ?_); rintro e_ w ⟨rfl, hx_⟩; replace hm := hm.ext hx_; clear hx_) | fail)
        refine (KO.out hR _ (HK.out.ext hm.x) (HC.out.ext hm.x) (HB.out.ext hm.x)).mono ?_
        rintro e w ⟨g, gt, gb, rfl, hg_, hgt_, hne_, hrk_, hrt_, hx_⟩
        replace hm := hm.push2 hx_ hgt_ hrt_ hg_ hrk_ hne_
        clear hx_ hg_ hgt_ hne_ hrk_ hrt_
        go_wp2_with fail
        refine (PO3.out _ g (KeyR.own (gt := gt) (gb := gb) OKK.out hm (by repeat (first | exact Has.hd | assumption | apply Has.tl)) (by repeat (first | exact Has.hd | assumption | apply Has.tl))) (HL.out.ext hm.x)).mono ?_
        rintro e w3 ⟨pa, ca, rfl, hca, hra, hx_⟩
        replace hm := hm.ext hx_
        obtain ⟨a, rfl⟩ := Option.isSome_iff_exists.1 (hra.1 (by rw [HE3.out]; omega))
        clear hx_
        go_wp2_with fail
        refine (POn.out _ g (KeyR.own (gt := gt) (gb := gb) OKK.out hm (by repeat (first | exact Has.hd | assumption | apply Has.tl)) (by repeat (first | exact Has.hd | assumption | apply Has.tl))) (HL.out.ext hm.x)).mono ?_
        rintro e w ⟨ps, cs, rfl, hcs, hrs, hx_⟩
        replace hm := hm.ext hx_
        have HRA := Lib.hid (hra.ext hx_)
        have HRS := Lib.hid hrs
        clear hx_ hra hrs
        have y4 : (hi : Int) ≤ (ca : Int) := by omega
        have y6 : ¬ ca = lo := by omega
        have y8 : hi ≤ ca := by omega
        have y9 : (n : Int) ≤ (ca : Int) := by omega
        have y10 : n ≤ ca := by omega
        go_wp2_with fail
        have s1 := fun wx (hwx : Ext _ wx) => show (convert 22 9 (.slice ps n cs)).run Tryd.prog wx = .ok (.string (bstr Dn)) wx from by
          have := conv_str ps Dn cs wx (HRS.out.ext hwx); rwa [HEn.out] at this
        have s2 := fun wx (hwx : Ext _ wx) => show (convert 22 9 (.slice (some a) n ca)).run Tryd.prog wx = .ok (.string (bstr Dn)) wx from by
          have h := (HRA.out.ext hwx).take n
          rw [HT.out] at h
          have := conv_str (some a) Dn ca wx h; rwa [HEn.out] at this
        refine region_at 27 (fun w' => Ext _ w') 106 (by kernel_rfl) (by kernel_rfl) rfl (fun _ _ h k => h.trans k) (drew_ext _) ?_
        simp only [List.take_succ_cons, List.take_zero, List.drop_succ_cons, List.drop_zero, List.map_cons, List.map_nil]
        repeat (first
            | (apply walk_is rfl rfl rfl
               · (intro wx hwx; first | ((with_reducible show gives _ _ _ (Sem.run _ (execOp _ (Oper.mk _ (Op.load _ _) _ _ _ _)) _)); first | ((with_reducible apply gq_ldv (hm.ext hwx)); infer_instance; (exact rfl); (focus ((repeat (first | exact .hd | assumption | apply Has.tl)); done)); (focus (first | omega | (simp; omega) | (refine Nat.lt_of_lt_of_le (BitVec.isLt _) ?_; first | omega | (simp; done) | (simp; omega) | fail) | fail))) | ((with_reducible apply gq_ldW (hm.ext hwx)); infer_instance; (exact rfl); (focus ((repeat (first | exact .hd | assumption | apply Has.tl)); done)); (focus (first | rfl | omega | (simp; done) | (simp; omega) | fail))) | ((with_reducible apply gq_ld1 (hm.ext hwx)); infer_instance; (exact rfl); (focus ((repeat (first | exact .hd | assumption | apply Has.tl)); done)); (exact rfl)) | fail) | (go_simp; (try go_bits); first | exact gives_same | exact gives_skip))
               · (simp only [Act.put, List.setIfInBounds_toArray, List.set_cons_succ, List.set_cons_zero]; rfl))
            | (apply walk_not rfl rfl rfl
               · (simp only [Act.put, List.setIfInBounds_toArray, List.set_cons_succ, List.set_cons_zero]; rfl)))
        intro wz hwz
        simp only [List.zip_cons_cons, List.zip_nil_right]
        repeat (first | rw [fin_is] | (rw [fin_cons]; intro _ _))
        rw [fin_nil]
        try (replace hm := hm.ext hwz)
        simp only [Act.put, List.setIfInBounds_toArray, List.set_cons_succ, List.set_cons_zero]
        clear s1 s2
        replace HRA := Lib.hid (HRA.out.ext hwz)
        have KZ := Lib.hid (KeyR.own (g := g) (gt := gt) (gb := gb) OKK.out hm (by repeat (first | exact Has.hd | assumption | apply Has.tl)) (by repeat (first | exact Has.hd | assumption | apply Has.tl)))
        have hxz := hm.x
        clear hm
        have hm := Own.start wz
        go_wp2_with (first | (go_at_call 27; (with_reducible refine (PH.out _ g (KZ.out.ext hm.x) (HL.out.ext (hxz.trans hm.x))).mono ?_); rintro e_ w ⟨rfl, hx_⟩; replace hm := hm.ext hx_; clear hx_) | ((with_reducible show wpList _ _ _ (Oper.mk _ (Op.load _ _) _ _ _ _ :: _) _ _); first | ((with_reducible apply wq_ldv hm); (exact rfl); infer_instance; (exact rfl); (focus ((repeat (first | exact .hd | assumption | apply Has.tl)); done)); (focus (first | omega | (simp; omega) | (refine Nat.lt_of_lt_of_le (BitVec.isLt _) ?_; first | omega | (simp; done) | (simp; omega) | fail) | fail))) | ((with_reducible apply wq_ldW hm); (exact rfl); infer_instance; (exact rfl); (focus ((repeat (first | exact .hd | assumption | apply Has.tl)); done)); (focus (first | rfl | omega | (simp; done) | (simp; omega) | fail))) | fail) | ((((with_reducible show wpList _ _ _ (Oper.mk _ (Op.store _ _ _) _ _ _ _ :: _) _ _); first | ((with_reducible apply wq_stv hm); (exact rfl); infer_instance; (exact rfl); (focus ((repeat (first | exact .hd | assumption | apply Swap.tl)); done)); infer_instance; (exact rfl); (focus (first | omega | (simp; omega) | (refine Nat.lt_of_lt_of_le (BitVec.isLt _) ?_; first | omega | (simp; done) | (simp; omega) | fail) | fail))) | ((with_reducible apply wq_stW hm); (exact rfl); infer_instance; (exact rfl); (exact rfl); (focus ((repeat (first | exact .hd | assumption | apply Swap.tl)); done)); (focus (first | rfl | omega | (simp; done) | (simp; omega) | fail)); (focus (first | rfl | omega | (simp; done) | (simp; omega) | fail)); (focus (first | exact one_map _ | (simp [one8, one32, one64]; done) | fail))) | fail)); clear hm; intro w hm) | ((first | ((with_reducible show wpList _ _ _ (Oper.mk _ (Op.alloc _) _ _ _ _ :: _) _ _); first | ((with_reducible apply wq_new hm); (exact rfl); infer_instance) | fail)); clear hm; (first | (have hx_ := g1; clear hx_; (first | (have hx_ := g2; clear hx_; (first | (have hx_ := g3; clear hx_; (first | (have hx_ := g4; clear hx_; (first | (have hx_ := g5; clear hx_; (first | (have hx_ := g6; clear hx_; (first | (have hx_ := g7; clear hx_; (first | (have hx_ := g8; clear hx_; (first | (have hx_ := g9; clear hx_; intro g10) | intro g9)) | intro g8)) | intro g7)) | intro g6)) | intro g5)) | intro g4)) | intro g3)) | intro g2)) | intro g1); intro w hm) | fail)
        rw [EC.out] at hm ⊢
        go_wp2_with (first | (go_at_call 29; (with_reducible refine (PE1.out _ g (KZ.out.ext hm.x)).mono ?_); rintro e_ w ⟨rfl, hx_⟩; replace hm := hm.ext hx_; clear hx_) | ((((with_reducible show wpList _ _ _ (Oper.mk _ (Op.store _ _ _) _ _ _ _ :: _) _ _); first | ((with_reducible apply wq_stW hm); (exact rfl); infer_instance; (exact rfl); (exact rfl); (focus ((repeat (first | exact .hd | assumption | apply Swap.tl)); done)); (focus (first | rfl | omega | (simp; done) | (simp; omega) | fail)); (focus (first | rfl | omega | (simp; done) | (simp; omega) | fail)); (focus (first | exact one_map _ | (simp [one8, one32, one64]; done) | fail))) | fail)); clear hm; intro w hm) | ((first | ((with_reducible show wpList _ _ _ (Oper.mk _ (Op.alloc _) _ _ _ _ :: _) _ _); first | ((with_reducible apply wq_new hm); (exact rfl); infer_instance) | fail)); clear hm; (first | (have hx_ := g1; clear hx_; (first | (have hx_ := g2; clear hx_; (first | (have hx_ := g3; clear hx_; (first | (have hx_ := g4; clear hx_; (first | (have hx_ := g5; clear hx_; (first | (have hx_ := g6; clear hx_; (first | (have hx_ := g7; clear hx_; (first | (have hx_ := g8; clear hx_; (first | (have hx_ := g9; clear hx_; intro g10) | intro g9)) | intro g8)) | intro g7)) | intro g6)) | intro g5)) | intro g4)) | intro g3)) | intro g2)) | intro g1); intro w hm) | fail)
        have s3 := fun wx (hwx : Ext _ wx) => show (convert 22 9 (.slice (some (a.add lo)) 16 (ca - lo))).run Tryd.prog wx = .ok (.string (bstr Y)) wx from by
          have h := ((HRA.out.ext (hm.x.trans hwx)).drop lo).take 16
          rw [EB.out] at h
          have := conv_str (some (a.add lo)) Y (ca - lo) wx h; rwa [lY] at this
        have s4 := fun wx (hwx : Ext _ wx) => show (convert 22 9 (.slice (some ⟨g2, 0, none⟩) 16 16)).run Tryd.prog wx = .ok (.string (bstr Y)) wx from by
          have := conv_str (some ⟨g2, 0, none⟩) Y 16 wx ((hm.ext hwx).rdB (g := g2) (l := Y) (by repeat (first | exact Has.hd | assumption | apply Has.tl))); rwa [lY] at this
        have hx0 := hm.x
        refine region_at 14 (fun w' => Ext _ w') 106 (by kernel_rfl) (by kernel_rfl) rfl (fun _ _ h k => h.trans k) (drew_ext _) ?_
        simp only [List.take_succ_cons, List.take_zero, List.drop_succ_cons, List.drop_zero, List.map_cons, List.map_nil]
        repeat (first
            | (apply walk_is rfl rfl rfl
               · (intro wx hwx; first | ((with_reducible show gives _ _ _ (Sem.run _ (execOp _ (Oper.mk _ (Op.load _ _) _ _ _ _)) _)); first | ((with_reducible apply gq_ldv (hm.ext hwx)); infer_instance; (exact rfl); (focus ((repeat (first | exact .hd | assumption | apply Has.tl)); done)); (focus (first | omega | (simp; omega) | (refine Nat.lt_of_lt_of_le (BitVec.isLt _) ?_; first | omega | (simp; done) | (simp; omega) | fail) | fail))) | ((with_reducible apply gq_ldW (hm.ext hwx)); infer_instance; (exact rfl); (focus ((repeat (first | exact .hd | assumption | apply Has.tl)); done)); (focus (first | rfl | omega | (simp; done) | (simp; omega) | fail))) | ((with_reducible apply gq_ld1 (hm.ext hwx)); infer_instance; (exact rfl); (focus ((repeat (first | exact .hd | assumption | apply Has.tl)); done)); (exact rfl)) | fail) | (go_simp; (try go_bits); first | exact gives_same | exact gives_skip | with_reducible exact gives_call (AW.out wx ((hxz.trans hx0).trans hwx))))
               · (simp only [Act.put, List.setIfInBounds_toArray, List.set_cons_succ, List.set_cons_zero]; rfl))
            | (apply walk_not rfl rfl rfl
               · (simp only [Act.put, List.setIfInBounds_toArray, List.set_cons_succ, List.set_cons_zero]; rfl)))
        intro wz hwz
        simp only [List.zip_cons_cons, List.zip_nil_right]
        repeat (first | rw [fin_is] | (rw [fin_cons]; intro _ _))
        rw [fin_nil]
        try (replace hm := hm.ext hwz)
        simp only [Act.put, List.setIfInBounds_toArray, List.set_cons_succ, List.set_cons_zero]
        go_wp2_with fail
        go_ret
        exact ⟨rfl, hxz.trans hm.x⟩
    · have e : fewB ls = false := by cases h : fewB ls <;> simp_all
      rw [e] at FW
      go_enter Tryd.func8, Tryd.ntmps8
      go_wp2_with (first | (go_at_call 19; (with_reducible refine (CR.out _).mono ?_); rintro e_ w_ ⟨rfl, rfl⟩) | (go_at_call 26; (with_reducible refine (FW.out _ hm.x).mono ?_); rintro e_ w ⟨rfl, hx_⟩; replace hm := hm.ext hx_; clear hx_) | fail)
      go_ret
      exact ⟨rfl, hm.x⟩
  · have e : rightL key = false := by cases h : rightL key <;> simp_all
    rw [e] at CR
    go_enter Tryd.func8, Tryd.ntmps8
    go_wp2_with (first | (go_at_call 19; (with_reducible refine (CR.out _).mono ?_); rintro e_ w_ ⟨rfl, rfl⟩) | fail)
    go_ret
    exact ⟨rfl, hm.x⟩

end Go.Proofs.YtmgopjeaehmbfaaDoor
