/-
  Layer 15: offsets go over sums of j. Conditions: the program's variables lie as its text lays them.
-/
import Derived.Test.YtiopgmnilchjkaaDoorLawEz1
namespace Go.Proofs.YtiopgmnilchjkaaDoor
open Go Go.RowKit
set_option maxRecDepth 100000
set_option linter.unusedVariables false
set_option linter.unusedSimpArgs false

theorem bits_xori (a b : Nat) (ha : a ≤ 9223372036854775807) (hb : b ≤ 9223372036854775807) : bits .xor .i64 (a : Int) (b : Int) = ((a ^^^ b : Nat) : Int) ∧ a ^^^ b ≤ 9223372036854775807 := by
  have hlt : a ^^^ b < 2 ^ 63 := Nat.xor_lt_two_pow (by omega) (by omega)
  refine ⟨?_, by omega⟩
  show IntKind.i64.wrap ((BitVec.ofInt 64 (a : Int) ^^^ BitVec.ofInt 64 (b : Int)).toNat : Nat) = _
  have e : (BitVec.ofInt 64 (a : Int) ^^^ BitVec.ofInt 64 (b : Int)).toNat = a ^^^ b := by
    rw [ofInt_nat', ofInt_nat', BitVec.toNat_xor, BitVec.toNat_ofNat, BitVec.toNat_ofNat, Nat.mod_eq_of_lt (by omega), Nat.mod_eq_of_lt (by omega)]
  rw [e, IntWalk.i64_in _ (by omega)]
theorem ofNat_xor (a b : Nat) : BitVec.ofNat 64 (a ^^^ b) = BitVec.ofNat 64 a ^^^ BitVec.ofNat 64 b := by
  apply BitVec.eq_of_getLsbD_eq
  intro i hi
  simp [BitVec.getLsbD_ofNat, hi]
set_option maxHeartbeats 8000000 in
theorem ezoffs_walk (key : List Byte) (p : Option Addr) (c : Nat) (j i : Int) (X : List Byte) (z : BitVec 32) (w0 : World) (hk : RdB w0 p key) (hkc : key.length ≤ c) (hkm : key.length ≤ maxLen) (hj0 : -9223372036854775808 ≤ j) (hj1 : j ≤ 9223372036854775807) (hi0 : -9223372036854775808 ≤ i) (hi1 : i ≤ 9223372036854775807) (hX : X.length = 16) (hc : Coef w0 ∧ CoefB w0) :
    Calls Tryd.prog 8 #[.agg (askedC p key.length c j i X).toArray, v32 z] w0 fun e w' => e = .returned (.bool true) ∧ Ext w0 w' := by
  have hm := Own.start w0
  have HC := Lib.hid hc.1
  have HB := Lib.hid hc.2
  have HK := Lib.hid hk
  have HXL := Lib.hid hX
  have F0 := Lib.hid (askedC_key (p := p) (n := key.length) (c := c) (j := j) (i := i) (X := X))
  have F1 := Lib.hid (askedC_j (p := p) (n := key.length) (c := c) (j := j) (i := i) (X := X))
  have F2 := Lib.hid (askedC_i (p := p) (n := key.length) (c := c) (j := j) (i := i) (X := X))
  have F3 := Lib.hid (askedC_x (p := p) (n := key.length) (c := c) (j := j) (i := i) hX)
  have lS := askedC_length (p := p) (n := key.length) (c := c) (j := j) (i := i) hX
  have CR := Lib.hid fun w => right15_any key p c w
  have KB := Lib.hid fun (h : rightL key = false) (w : World) (h1 : Coef w) => keys15_bad key p c w h h1
  have KO := Lib.hid fun (h : rightL key = true) (w : World) (h1 : RdB w p key) (h2 : Coef w) (h3 : CoefB w) => keys15_ok key p c w h hkc h1 h2 h3
  have AW := Lib.hid fun (w : World) (h : Ext w0 w) => awake15 w ⟨hc.1.ext h, hc.2.ext h⟩
  have OKK := Lib.hid (keyOf_ok key)
  generalize askedC p key.length c j i X = S at *
  generalize keyOf key = K at *
  clear hc hk hX
  cases hR : rightL key with
  | false =>
    rw [hR] at CR
    go_enter Tryd.func8, Tryd.ntmps8
    go_wp2_with (first | ((with_reducible apply wq_ld1 hm); (exact rfl); infer_instance; (exact rfl); (focus ((repeat (first | exact .hd | assumption | apply Has.tl)); done)); (exact F0.out)) | ((first | ((with_reducible show wpList _ _ _ (Oper.mk _ (Op.box _ _) _ _ _ _ :: _) _ _); first | ((with_reducible apply wq_boxN hm); (exact rfl); (exact rfl)) | fail)); clear hm; (first | (have hx_ := g1; clear hx_; (first | (have hx_ := g2; clear hx_; (first | (have hx_ := g3; clear hx_; (first | (have hx_ := g4; clear hx_; (first | (have hx_ := g5; clear hx_; (first | (have hx_ := g6; clear hx_; (first | (have hx_ := g7; clear hx_; (first | (have hx_ := g8; clear hx_; (first | (have hx_ := g9; clear hx_; intro g10) | intro g9)) | intro g8)) | intro g7)) | intro g6)) | intro g5)) | intro g4)) | intro g3)) | intro g2)) | intro g1); intro w hm) | fail)
    refine (KB.out hR _ (HC.out.ext hm.x)).mono ?_
    rintro e w ⟨rfl, hx_⟩
    replace hm := hm.ext hx_
    clear hx_
    go_wp2_with (first | ((with_reducible apply wq_ld1 hm); (exact rfl); infer_instance; (exact rfl); (focus ((repeat (first | exact .hd | assumption | apply Has.tl)); done)); (exact F0.out)) | (go_at_call 19; (with_reducible refine (CR.out _).mono ?_); rintro e_ w_ ⟨rfl, rfl⟩) | fail)
    go_ret
    exact ⟨rfl, hm.x⟩
  | true =>
    by_cases h1 : j < 0
    · have a1 : decide (j < 0) = true := decide_eq_true h1
      go_enter Tryd.func8, Tryd.ntmps8
      go_wp2_with (first | ((with_reducible apply wq_ld1 hm); (exact rfl); infer_instance; (exact rfl); (focus ((repeat (first | exact .hd | assumption | apply Has.tl)); done)); (exact F0.out)) | ((first | ((with_reducible show wpList _ _ _ (Oper.mk _ (Op.box _ _) _ _ _ _ :: _) _ _); first | ((with_reducible apply wq_boxN hm); (exact rfl); (exact rfl)) | fail)); clear hm; (first | (have hx_ := g1; clear hx_; (first | (have hx_ := g2; clear hx_; (first | (have hx_ := g3; clear hx_; (first | (have hx_ := g4; clear hx_; (first | (have hx_ := g5; clear hx_; (first | (have hx_ := g6; clear hx_; (first | (have hx_ := g7; clear hx_; (first | (have hx_ := g8; clear hx_; (first | (have hx_ := g9; clear hx_; intro g10) | intro g9)) | intro g8)) | intro g7)) | intro g6)) | intro g5)) | intro g4)) | intro g3)) | intro g2)) | intro g1); intro w hm) | fail)
      refine (KO.out hR _ (HK.out.ext hm.x) (HC.out.ext hm.x) (HB.out.ext hm.x)).mono ?_
      rintro e w ⟨g, gt, gb, rfl, hg_, hgt_, hne_, hrk_, hrt_, hx_⟩
      replace hm := hm.push2 hx_ hgt_ hrt_ hg_ hrk_ hne_
      clear hx_ hg_ hgt_ hne_ hrk_ hrt_
      rw [hR] at CR
      go_wp2_with (first | ((with_reducible apply wq_ld1 hm); (exact rfl); infer_instance; (exact rfl); (focus ((repeat (first | exact .hd | assumption | apply Has.tl)); done)); (exact F0.out)) | ((with_reducible apply wq_ld1 hm); (exact rfl); infer_instance; (exact rfl); (focus ((repeat (first | exact .hd | assumption | apply Has.tl)); done)); (exact F1.out)) | (go_at_call 19; (with_reducible refine (CR.out _).mono ?_); rintro e_ w_ ⟨rfl, rfl⟩) | fail)
      go_ret
      exact ⟨rfl, hm.x⟩
    · by_cases h2 : i < 0
      · have a1 : decide (j < 0) = false := decide_eq_false h1
        have a2 : decide (i < 0) = true := decide_eq_true h2
        go_enter Tryd.func8, Tryd.ntmps8
        go_wp2_with (first | ((with_reducible apply wq_ld1 hm); (exact rfl); infer_instance; (exact rfl); (focus ((repeat (first | exact .hd | assumption | apply Has.tl)); done)); (exact F0.out)) | ((first | ((with_reducible show wpList _ _ _ (Oper.mk _ (Op.box _ _) _ _ _ _ :: _) _ _); first | ((with_reducible apply wq_boxN hm); (exact rfl); (exact rfl)) | fail)); clear hm; (first | (have hx_ := g1; clear hx_; (first | (have hx_ := g2; clear hx_; (first | (have hx_ := g3; clear hx_; (first | (have hx_ := g4; clear hx_; (first | (have hx_ := g5; clear hx_; (first | (have hx_ := g6; clear hx_; (first | (have hx_ := g7; clear hx_; (first | (have hx_ := g8; clear hx_; (first | (have hx_ := g9; clear hx_; intro g10) | intro g9)) | intro g8)) | intro g7)) | intro g6)) | intro g5)) | intro g4)) | intro g3)) | intro g2)) | intro g1); intro w hm) | fail)
        refine (KO.out hR _ (HK.out.ext hm.x) (HC.out.ext hm.x) (HB.out.ext hm.x)).mono ?_
        rintro e w ⟨g, gt, gb, rfl, hg_, hgt_, hne_, hrk_, hrt_, hx_⟩
        replace hm := hm.push2 hx_ hgt_ hrt_ hg_ hrk_ hne_
        clear hx_ hg_ hgt_ hne_ hrk_ hrt_
        rw [hR] at CR
        go_wp2_with (first | ((with_reducible apply wq_ld1 hm); (exact rfl); infer_instance; (exact rfl); (focus ((repeat (first | exact .hd | assumption | apply Has.tl)); done)); (exact F0.out)) | ((with_reducible apply wq_ld1 hm); (exact rfl); infer_instance; (exact rfl); (focus ((repeat (first | exact .hd | assumption | apply Has.tl)); done)); (exact F1.out)) | ((with_reducible apply wq_ld1 hm); (exact rfl); infer_instance; (exact rfl); (focus ((repeat (first | exact .hd | assumption | apply Has.tl)); done)); (exact F2.out)) | (go_at_call 19; (with_reducible refine (CR.out _).mono ?_); rintro e_ w_ ⟨rfl, rfl⟩) | fail)
        go_ret
        exact ⟨rfl, hm.x⟩
      · obtain ⟨a, rfl⟩ : ∃ n : Nat, j = n := ⟨j.toNat, by omega⟩
        obtain ⟨n, rfl⟩ : ∃ n : Nat, i = n := ⟨i.toNat, by omega⟩
        have a1 : decide ((a : Int) < 0) = false := decide_eq_false h1
        have a2 : decide ((n : Int) < 0) = false := decide_eq_false h2
        have hz := z.isLt
        obtain ⟨b, hb⟩ : ∃ b : Nat, z.toNat = b := ⟨_, rfl⟩
        obtain ⟨q1, q2⟩ := bits_xori a b (by omega) (by omega)
        have eX := ofNat_xor a b
        obtain ⟨m, hmx⟩ : ∃ m : Nat, a ^^^ b = m := ⟨_, rfl⟩
        rw [hmx] at q1 q2 eX
        rw [← hb] at q1
        go_enter Tryd.func8, Tryd.ntmps8
        go_wp2_with (first | ((with_reducible apply wq_ld1 hm); (exact rfl); infer_instance; (exact rfl); (focus ((repeat (first | exact .hd | assumption | apply Has.tl)); done)); (exact F0.out)) | ((first | ((with_reducible show wpList _ _ _ (Oper.mk _ (Op.box _ _) _ _ _ _ :: _) _ _); first | ((with_reducible apply wq_boxN hm); (exact rfl); (exact rfl)) | fail)); clear hm; (first | (have hx_ := g1; clear hx_; (first | (have hx_ := g2; clear hx_; (first | (have hx_ := g3; clear hx_; (first | (have hx_ := g4; clear hx_; (first | (have hx_ := g5; clear hx_; (first | (have hx_ := g6; clear hx_; (first | (have hx_ := g7; clear hx_; (first | (have hx_ := g8; clear hx_; (first | (have hx_ := g9; clear hx_; intro g10) | intro g9)) | intro g8)) | intro g7)) | intro g6)) | intro g5)) | intro g4)) | intro g3)) | intro g2)) | intro g1); intro w hm) | fail)
        refine (KO.out hR _ (HK.out.ext hm.x) (HC.out.ext hm.x) (HB.out.ext hm.x)).mono ?_
        rintro e w ⟨g, gt, gb, rfl, hg_, hgt_, hne_, hrk_, hrt_, hx_⟩
        replace hm := hm.push2 hx_ hgt_ hrt_ hg_ hrk_ hne_
        clear hx_ hg_ hgt_ hne_ hrk_ hrt_
        rw [hR] at CR
        have D1 := Lib.hid fun (wx : World) (h : KeyR wx g K) => off_pos g K a n wx h (by omega) (by omega)
        have d2 := fun (wx : World) (h : KeyR wx g K) => off_pos g K b n wx h (by omega) (by omega)
        rw [← hb] at d2
        have D2 := Lib.hid d2
        have D3 := Lib.hid fun (wx : World) (h : KeyR wx g K) => off_pos g K m n wx h (by omega) (by omega)
        have D4 : Hid (∀ (wx : World), KeyR wx g K → Gives Tryd.prog 26 #[.pointer (some ⟨g, 0, none⟩), .int .i64 0, .int .i64 n] wx (A8 (offN K 0 n))) := Lib.hid fun wx h => off_pos g K 0 n wx h (by omega) (by omega)
        have lA := offN_length K a n
        have lB := offN_length K z.toNat n
        have lC := offN_length K m n
        have lD := offN_length K 0 n
        have P1 := Lib.hid fun wx => plus15_any (offN K a n) (offN K z.toNat n) lA lB wx
        have p2 := fun wx => plus15_any (offN K m n) (offN K 0 n) lC lD wx
        have eS : bothL (offN K m n) (offN K 0 n) = bothL (offN K a n) (offN K z.toNat n) := by
          rw [off_sums K OKK.out a z.toNat n (BitVec.ofNat 64 m) (by rw [hb]; exact eX)]; rfl
        rw [eS] at p2
        have P2 := Lib.hid p2
        have lS2 := bothL_length (offN K a n) (offN K z.toNat n)
        clear d2 p2 eS eX hb hmx
        generalize bothL (offN K a n) (offN K z.toNat n) = W at *
        generalize offN K a n = O1 at *
        generalize offN K z.toNat n = O2 at *
        generalize offN K m n = O3 at *
        generalize offN K 0 n = O4 at *
        go_wp2_with (first | ((with_reducible apply wq_ld1 hm); (exact rfl); infer_instance; (exact rfl); (focus ((repeat (first | exact .hd | assumption | apply Has.tl)); done)); (exact F0.out)) | ((with_reducible apply wq_ld1 hm); (exact rfl); infer_instance; (exact rfl); (focus ((repeat (first | exact .hd | assumption | apply Has.tl)); done)); (exact F1.out)) | ((with_reducible apply wq_ld1 hm); (exact rfl); infer_instance; (exact rfl); (focus ((repeat (first | exact .hd | assumption | apply Has.tl)); done)); (exact F2.out)) | (go_at_call 19; (with_reducible refine (CR.out _).mono ?_); rintro e_ w_ ⟨rfl, rfl⟩) | fail)
        have kr := fun wx (hwx : Ext w wx) => KeyR.own (g := g) (gt := gt) (gb := gb) OKK.out (hm.ext hwx) (by repeat (first | exact Has.hd | assumption | apply Has.tl)) (by repeat (first | exact Has.hd | assumption | apply Has.tl))
        have hx0 := hm.x
        refine region_at 31 (fun w' => Ext _ w') 60 (by kernel_rfl) (by kernel_rfl) rfl (fun _ _ h k => h.trans k) (drew_ext _) ?_
        simp only [List.take_succ_cons, List.take_zero, List.drop_succ_cons, List.drop_zero, List.map_cons, List.map_nil]
        repeat (first
            | (apply walk_is rfl rfl rfl; (intro wx hwx; (with_reducible apply gq_ld1 (hm.ext hwx)); infer_instance; (exact rfl); (focus ((repeat (first | exact .hd | assumption | apply Has.tl)); done)); (exact F1.out)); (simp only [Act.put, List.setIfInBounds_toArray, List.set_cons_succ, List.set_cons_zero]; rfl))
            | (apply walk_is rfl rfl rfl; (intro wx hwx; (with_reducible apply gq_ld1 (hm.ext hwx)); infer_instance; (exact rfl); (focus ((repeat (first | exact .hd | assumption | apply Has.tl)); done)); (exact F2.out)); (simp only [Act.put, List.setIfInBounds_toArray, List.set_cons_succ, List.set_cons_zero]; rfl))
            | (apply walk_is rfl rfl rfl; (intro wx hwx; (with_reducible apply gq_ldN (hm.ext hwx)); infer_instance; (exact rfl); (focus ((repeat (first | exact .hd | assumption | apply Has.tl)); done)); (exact F3.out); (exact ((List.length_map ..).trans HXL.out))); (simp only [Act.put, List.setIfInBounds_toArray, List.set_cons_succ, List.set_cons_zero]; rfl))
            | (apply walk_is rfl rfl rfl
               · (intro wx hwx; first | ((with_reducible show gives _ _ _ (Sem.run _ (execOp _ (Oper.mk _ (Op.load _ _) _ _ _ _)) _)); first | ((with_reducible apply gq_ldv (hm.ext hwx)); infer_instance; (exact rfl); (focus ((repeat (first | exact .hd | assumption | apply Has.tl)); done)); (focus (first | omega | (simp; omega) | (refine Nat.lt_of_lt_of_le (BitVec.isLt _) ?_; first | omega | (simp; done) | (simp; omega) | fail) | fail))) | ((with_reducible apply gq_ldW (hm.ext hwx)); infer_instance; (exact rfl); (focus ((repeat (first | exact .hd | assumption | apply Has.tl)); done)); (focus (first | rfl | omega | (simp; done) | (simp; omega) | fail))) | ((with_reducible apply gq_ld1 (hm.ext hwx)); infer_instance; (exact rfl); (focus ((repeat (first | exact .hd | assumption | apply Has.tl)); done)); (exact rfl)) | fail) | (go_simp; (try go_bits); first | exact gives_same | exact gives_skip | with_reducible exact gives_call (D1.out wx (kr wx hwx)) | with_reducible exact gives_call (D2.out wx (kr wx hwx)) | with_reducible exact gives_call (D3.out wx (kr wx hwx)) | with_reducible exact gives_call (D4.out wx (kr wx hwx)) | with_reducible exact gives_call (P1.out wx) | with_reducible exact gives_call (P2.out wx) | with_reducible exact gives_call (AW.out wx (hx0.trans hwx))))
               · (simp only [Act.put, List.setIfInBounds_toArray, List.set_cons_succ, List.set_cons_zero]; rfl))
            | (apply walk_not rfl rfl rfl
               · (simp only [Act.put, List.setIfInBounds_toArray, List.set_cons_succ, List.set_cons_zero]; rfl)))
        intro wz hwz
        simp only [List.zip_cons_cons, List.zip_nil_right]
        repeat (first | rw [fin_is] | (rw [fin_cons]; intro _ _))
        rw [fin_nil]
        try (replace hm := hm.ext hwz)
        simp only [Act.put, List.setIfInBounds_toArray, List.set_cons_succ, List.set_cons_zero]
        go_wp2_with fail
        go_ret
        exact ⟨rfl, hm.x⟩

end Go.Proofs.YtiopgmnilchjkaaDoor
