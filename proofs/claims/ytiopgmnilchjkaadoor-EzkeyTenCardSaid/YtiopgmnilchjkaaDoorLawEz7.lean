/-
  Layer 15: for j = -1 E is ten rounds. Conditions: the program's variables lie as its text lays them.
-/
import Derived.Test.YtiopgmnilchjkaaDoorLawEz1
import Derived.Test.YtiopgmnilchjkaaDoorKs10
namespace Go.Proofs.YtiopgmnilchjkaaDoor
open Go Go.RowKit
set_option maxRecDepth 100000
set_option linter.unusedVariables false
set_option linter.unusedSimpArgs false

/-- A pointer to the tables. -/
def TabQ : Slot := fun v w => ∃ g gb, v = .pointer (some ⟨g, 0, none⟩) ∧ Row w g 105 (tcells gb mixT unmixT)
theorem TabQ.stable : Stable TabQ := fun _ _ _ ⟨g, gb, h1, h2⟩ hx => ⟨g, gb, h1, row_ext h2 hx⟩
theorem tabs_q (w0 : World) (hc : Coef w0) : GivesR Tryd.prog 18 #[] w0 TabQ := (tabs_make w0 hc).mono fun _ _ ⟨g, gb, h1, _, h3, h4⟩ => ⟨_, h1, ⟨g, gb, rfl, h3⟩, h4⟩
set_option maxHeartbeats 8000000 in
theorem ezten_walk (key : List Byte) (p : Option Addr) (c : Nat) (j i : Int) (X : List Byte) (w0 : World) (hk : RdB w0 p key) (hkc : key.length ≤ c) (hkm : key.length ≤ maxLen) (hj0 : -9223372036854775808 ≤ j) (hj1 : j ≤ 9223372036854775807) (hi0 : -9223372036854775808 ≤ i) (hi1 : i ≤ 9223372036854775807) (hX : X.length = 16) (hc : Coef w0 ∧ CoefB w0) :
    Calls Tryd.prog 7 #[.agg (askedC p key.length c j i X).toArray] w0 fun e w' => e = .returned (.bool true) ∧ Ext w0 w' := by
  have hm := Own.start w0
  have HC := Lib.hid hc.1
  have HB := Lib.hid hc.2
  have HK := Lib.hid hk
  have HXL := Lib.hid hX
  have F0 := Lib.hid (askedC_key (p := p) (n := key.length) (c := c) (j := j) (i := i) (X := X))
  have F1 := Lib.hid (askedC_j (p := p) (n := key.length) (c := c) (j := j) (i := i) (X := X))
  have F2 := Lib.hid (askedC_i (p := p) (n := key.length) (c := c) (j := j) (i := i) (X := X))
  have F3 := Lib.hid (askedC_x (p := p) (n := key.length) (c := c) (j := j) (i := i) hX)
  have lS := askedC_length (p := p) (n := key.length) (c := c) (j := j) (i := i) hX
  have CR := Lib.hid fun w => right15_any key p c w
  have KB := Lib.hid fun (h : rightL key = false) (w : World) (h1 : Coef w) => keys15_bad key p c w h h1
  have KO := Lib.hid fun (h : rightL key = true) (w : World) (h1 : RdB w p key) (h2 : Coef w) (h3 : CoefB w) => keys15_ok key p c w h hkc h1 h2 h3
  have AW := Lib.hid fun (w : World) (h : Ext w0 w) => awake15 w ⟨hc.1.ext h, hc.2.ext h⟩
  have OKK := Lib.hid (keyOf_ok key)
  generalize askedC p key.length c j i X = S at *
  generalize keyOf key = K at *
  clear hc hk hX
  cases hR : rightL key with
  | false =>
    rw [hR] at CR
    go_enter Tryd.func7, Tryd.ntmps7
    go_wp2_with (first | ((with_reducible apply wq_ld1 hm); (exact rfl); infer_instance; (exact rfl); (focus ((repeat (first | exact .hd | assumption | apply Has.tl)); done)); (exact F0.out)) | ((first | ((with_reducible show wpList _ _ _ (Oper.mk _ (Op.box _ _) _ _ _ _ :: _) _ _); first | ((with_reducible apply wq_boxN hm); (exact rfl); (exact rfl)) | fail)); clear hm; (first | (have hx_ := g1; clear hx_; (first | (have hx_ := g2; clear hx_; (first | (have hx_ := g3; clear hx_; (first | (have hx_ := g4; clear hx_; (first | (have hx_ := g5; clear hx_; (first | (have hx_ := g6; clear hx_; (first | (have hx_ := g7; clear hx_; (first | (have hx_ := g8; clear hx_; (first | (have hx_ := g9; clear hx_; intro g10) | intro g9)) | intro g8)) | intro g7)) | intro g6)) | intro g5)) | intro g4)) | intro g3)) | intro g2)) | intro g1); intro w hm) | fail)
    refine (KB.out hR _ (HC.out.ext hm.x)).mono ?_
    rintro e w ⟨rfl, hx_⟩
    replace hm := hm.ext hx_
    clear hx_
    go_wp2_with (first | ((with_reducible apply wq_ld1 hm); (exact rfl); infer_instance; (exact rfl); (focus ((repeat (first | exact .hd | assumption | apply Has.tl)); done)); (exact F0.out)) | (go_at_call 19; (with_reducible refine (CR.out _).mono ?_); rintro e_ w_ ⟨rfl, rfl⟩) | fail)
    go_ret
    exact ⟨rfl, hm.x⟩
  | true =>
    by_cases h2 : i < 0
    · have a2 : decide (i < 0) = true := decide_eq_true h2
      go_enter Tryd.func7, Tryd.ntmps7
      go_wp2_with (first | ((with_reducible apply wq_ld1 hm); (exact rfl); infer_instance; (exact rfl); (focus ((repeat (first | exact .hd | assumption | apply Has.tl)); done)); (exact F0.out)) | ((first | ((with_reducible show wpList _ _ _ (Oper.mk _ (Op.box _ _) _ _ _ _ :: _) _ _); first | ((with_reducible apply wq_boxN hm); (exact rfl); (exact rfl)) | fail)); clear hm; (first | (have hx_ := g1; clear hx_; (first | (have hx_ := g2; clear hx_; (first | (have hx_ := g3; clear hx_; (first | (have hx_ := g4; clear hx_; (first | (have hx_ := g5; clear hx_; (first | (have hx_ := g6; clear hx_; (first | (have hx_ := g7; clear hx_; (first | (have hx_ := g8; clear hx_; (first | (have hx_ := g9; clear hx_; intro g10) | intro g9)) | intro g8)) | intro g7)) | intro g6)) | intro g5)) | intro g4)) | intro g3)) | intro g2)) | intro g1); intro w hm) | fail)
      refine (KO.out hR _ (HK.out.ext hm.x) (HC.out.ext hm.x) (HB.out.ext hm.x)).mono ?_
      rintro e w ⟨g, gt, gb, rfl, hg_, hgt_, hne_, hrk_, hrt_, hx_⟩
      replace hm := hm.push2 hx_ hgt_ hrt_ hg_ hrk_ hne_
      clear hx_ hg_ hgt_ hne_ hrk_ hrt_
      rw [hR] at CR
      go_wp2_with (first | ((with_reducible apply wq_ld1 hm); (exact rfl); infer_instance; (exact rfl); (focus ((repeat (first | exact .hd | assumption | apply Has.tl)); done)); (exact F0.out)) | ((with_reducible apply wq_ld1 hm); (exact rfl); infer_instance; (exact rfl); (focus ((repeat (first | exact .hd | assumption | apply Has.tl)); done)); (exact F2.out)) | (go_at_call 19; (with_reducible refine (CR.out _).mono ?_); rintro e_ w_ ⟨rfl, rfl⟩) | fail)
      go_ret
      exact ⟨rfl, hm.x⟩
    · obtain ⟨n, rfl⟩ : ∃ n : Nat, i = n := ⟨i.toNat, by omega⟩
      have a2 : decide ((n : Int) < 0) = false := decide_eq_false h2
      go_enter Tryd.func7, Tryd.ntmps7
      go_wp2_with (first | ((with_reducible apply wq_ld1 hm); (exact rfl); infer_instance; (exact rfl); (focus ((repeat (first | exact .hd | assumption | apply Has.tl)); done)); (exact F0.out)) | ((first | ((with_reducible show wpList _ _ _ (Oper.mk _ (Op.box _ _) _ _ _ _ :: _) _ _); first | ((with_reducible apply wq_boxN hm); (exact rfl); (exact rfl)) | fail)); clear hm; (first | (have hx_ := g1; clear hx_; (first | (have hx_ := g2; clear hx_; (first | (have hx_ := g3; clear hx_; (first | (have hx_ := g4; clear hx_; (first | (have hx_ := g5; clear hx_; (first | (have hx_ := g6; clear hx_; (first | (have hx_ := g7; clear hx_; (first | (have hx_ := g8; clear hx_; (first | (have hx_ := g9; clear hx_; intro g10) | intro g9)) | intro g8)) | intro g7)) | intro g6)) | intro g5)) | intro g4)) | intro g3)) | intro g2)) | intro g1); intro w hm) | fail)
      refine (KO.out hR _ (HK.out.ext hm.x) (HC.out.ext hm.x) (HB.out.ext hm.x)).mono ?_
      rintro e w ⟨g, gt, gb, rfl, hg_, hgt_, hne_, hrk_, hrt_, hx_⟩
      replace hm := hm.push2 hx_ hgt_ hrt_ hg_ hrk_ hne_
      clear hx_ hg_ hgt_ hne_ hrk_ hrt_
      rw [hR] at CR
      have lX := HXL.out
      have li := OKK.out.hi
      have lj := OKK.out.hj
      have ll := OKK.out.hl
      have PT0 : Hid (∀ (wx : World), KeyR wx g K → Gives Tryd.prog 20 #[.pointer (some ⟨g, 0, none⟩), .int .i64 0] wx (A8 K.i)) := Lib.hid fun wx h => part_any g K 0 wx h
      have PT1 : Hid (∀ (wx : World), KeyR wx g K → Gives Tryd.prog 20 #[.pointer (some ⟨g, 0, none⟩), .int .i64 1] wx (A8 K.j)) := Lib.hid fun wx h => part_any g K 1 wx h
      have PT2 : Hid (∀ (wx : World), KeyR wx g K → Gives Tryd.prog 20 #[.pointer (some ⟨g, 0, none⟩), .int .i64 2] wx (A8 K.l)) := Lib.hid fun wx h => part_any g K 2 wx h
      have M1 : Hid (∀ wx, Gives Tryd.prog 30 #[.int .u64 (n : Int), A8 K.l] wx (A8 (mulL (BitVec.ofNat 64 n) K.l))) := Lib.hid fun wx => by rw [natv64 (by omega)]; exact ring_mul _ K.l ll wx
      have lM := mulL_length (BitVec.ofNat 64 n) K.l
      have P1 := Lib.hid fun wx => plus15_any X (mulL (BitVec.ofNat 64 n) K.l) lX lM wx
      have lU := bothL_length X (mulL (BitVec.ofNat 64 n) K.l)
      have E1 : Hid (∀ wx, KeyR wx g K → Gives Tryd.prog 25 #[.pointer (some ⟨g, 0, none⟩), .int .i64 (-1), .int .i64 n, A8 X] wx (A8 (eT K n X))) := Lib.hid fun wx h => e_ten g K n X lX wx h (by omega)
      have E0 : Hid (∀ wx, KeyR wx g K → Gives Tryd.prog 25 #[.pointer (some ⟨g, 0, none⟩), .int .i64 (-1), .int .i64 0, A8 (bothL X (mulL (BitVec.ofNat 64 n) K.l))] wx (A8 (eT K n X))) := Lib.hid fun wx h => by
        have := e_ten g K 0 _ lU wx h (by omega)
        rw [eT_zero K _ lU] at this; exact this
      have R1 : Hid (∀ (wx : World) (gq gb : Nat) (p : Option Addr) (c : Nat), 10 ≤ c → RdK wx p 16 (tenK K) → Row wx gq 105 (tcells gb mixT unmixT) → Gives Tryd.prog 31 #[.pointer (some ⟨gq, 0, none⟩), A8 (bothL X (mulL (BitVec.ofNat 64 n) K.l)), .slice p 10 c] wx (A8 (eT K n X))) := Lib.hid fun wx gq gb p c hc h hr => trounds_any gq gb _ (tenK K) p c lU wx h hc (by simp [tenK]) hr
      have EACH := Lib.hid (tenK_each OKK.out)
      have TQ := Lib.hid fun (wx : World) (h : Ext w0 wx) => tabs_q wx (HC.out.ext h)
      have lY := eT_length K n X
      generalize eT K n X = Y at *
      generalize bothL X (mulL (BitVec.ofNat 64 n) K.l) = U at *
      generalize mulL (BitVec.ofNat 64 n) K.l = M at *
      go_wp2_with (first | ((with_reducible apply wq_ld1 hm); (exact rfl); infer_instance; (exact rfl); (focus ((repeat (first | exact .hd | assumption | apply Has.tl)); done)); (exact F0.out)) | ((with_reducible apply wq_ld1 hm); (exact rfl); infer_instance; (exact rfl); (focus ((repeat (first | exact .hd | assumption | apply Has.tl)); done)); (exact F2.out)) | (go_at_call 19; (with_reducible refine (CR.out _).mono ?_); rintro e_ w_ ⟨rfl, rfl⟩) | fail)
      have kr := fun wx (hwx : Ext w wx) => KeyR.own (g := g) (gt := gt) (gb := gb) OKK.out (hm.ext hwx) (by repeat (first | exact Has.hd | assumption | apply Has.tl)) (by repeat (first | exact Has.hd | assumption | apply Has.tl))
      refine region_new 10 (fun w' => Ext _ w') 77 (by kernel_rfl) (by kernel_rfl) rfl (fun _ _ h k => h.trans k) (drew_ext _) ?_
      simp only [List.take_succ_cons, List.take_zero, List.drop_succ_cons, List.drop_zero, List.map_cons, List.map_nil]
      repeat (first
          | (apply walk_some (NewS (w.heap.size) 32 ((zer 16).map v8)) 5 (NewS.stable _ _ _) rfl rfl rfl rfl
             · (intro wx hwx; go_simp; exact gives_new (cs := (zer 16).map v8) hwx.size))
          | (apply walk_is rfl rfl rfl; (intro wx hwx; (with_reducible apply gq_ld1 (hm.ext hwx)); infer_instance; (exact rfl); (focus ((repeat (first | exact .hd | assumption | apply Has.tl)); done)); (exact F1.out)); (simp only [Act.put, List.setIfInBounds_toArray, List.set_cons_succ, List.set_cons_zero]; rfl))
          | (apply walk_is rfl rfl rfl; (intro wx hwx; (with_reducible apply gq_ld1 (hm.ext hwx)); infer_instance; (exact rfl); (focus ((repeat (first | exact .hd | assumption | apply Has.tl)); done)); (exact F2.out)); (simp only [Act.put, List.setIfInBounds_toArray, List.set_cons_succ, List.set_cons_zero]; rfl))
          | (apply walk_is rfl rfl rfl; (intro wx hwx; (with_reducible apply gq_ldN (hm.ext hwx)); infer_instance; (exact rfl); (focus ((repeat (first | exact .hd | assumption | apply Has.tl)); done)); (exact F3.out); (exact ((List.length_map ..).trans HXL.out))); (simp only [Act.put, List.setIfInBounds_toArray, List.set_cons_succ, List.set_cons_zero]; rfl))
          | (apply walk_is rfl rfl rfl
             · (intro wx hwx; first | ((with_reducible show gives _ _ _ (Sem.run _ (execOp _ (Oper.mk _ (Op.load _ _) _ _ _ _)) _)); first | ((with_reducible apply gq_ldv (hm.ext hwx)); infer_instance; (exact rfl); (focus ((repeat (first | exact .hd | assumption | apply Has.tl)); done)); (focus (first | omega | (simp; omega) | (refine Nat.lt_of_lt_of_le (BitVec.isLt _) ?_; first | omega | (simp; done) | (simp; omega) | fail) | fail))) | ((with_reducible apply gq_ldW (hm.ext hwx)); infer_instance; (exact rfl); (focus ((repeat (first | exact .hd | assumption | apply Has.tl)); done)); (focus (first | rfl | omega | (simp; done) | (simp; omega) | fail))) | ((with_reducible apply gq_ld1 (hm.ext hwx)); infer_instance; (exact rfl); (focus ((repeat (first | exact .hd | assumption | apply Has.tl)); done)); (exact rfl)) | fail) | (go_simp; (try go_bits); first | exact gives_same | exact gives_skip | with_reducible exact gives_call (PT2.out wx (kr wx hwx)) | with_reducible exact gives_call (M1.out wx) | with_reducible exact gives_call (P1.out wx)))
             · (simp only [Act.put, List.setIfInBounds_toArray, List.set_cons_succ, List.set_cons_zero]; rfl))
          | (apply walk_not rfl rfl rfl
             · (simp only [Act.put, List.setIfInBounds_toArray, List.set_cons_succ, List.set_cons_zero]; rfl)))
      intro wz hwz
      simp only [List.zip_cons_cons, List.zip_nil_right]
      repeat rw [fin_is]
      rw [fin_cons]; intro x5 hx5
      repeat rw [fin_is]
      rw [fin_nil]; intro hap
      simp only [Act.put, List.setIfInBounds_toArray, List.set_cons_succ, List.set_cons_zero] at hap ⊢
      obtain ⟨g5_, rfl, hg5, hr5⟩ := hx5
      replace hm := hm.push hwz hg5 hr5
      clear hap hr5
      clear kr
      go_wp2_with (first | (go_at_call 20; (with_reducible refine (PT0.out _ (KeyR.own (g := g) (gt := gt) (gb := gb) OKK.out hm (by repeat (first | exact Has.hd | assumption | apply Has.tl)) (by repeat (first | exact Has.hd | assumption | apply Has.tl)))).mono ?_); rintro e_ w ⟨rfl, hx_⟩; replace hm := hm.ext hx_; clear hx_) | (go_at_call 20; (with_reducible refine (PT1.out _ (KeyR.own (g := g) (gt := gt) (gb := gb) OKK.out hm (by repeat (first | exact Has.hd | assumption | apply Has.tl)) (by repeat (first | exact Has.hd | assumption | apply Has.tl)))).mono ?_); rintro e_ w ⟨rfl, hx_⟩; replace hm := hm.ext hx_; clear hx_) | (go_at_call 20; (with_reducible refine (PT2.out _ (KeyR.own (g := g) (gt := gt) (gb := gb) OKK.out hm (by repeat (first | exact Has.hd | assumption | apply Has.tl)) (by repeat (first | exact Has.hd | assumption | apply Has.tl)))).mono ?_); rintro e_ w ⟨rfl, hx_⟩; replace hm := hm.ext hx_; clear hx_) | ((((with_reducible show wpList _ _ _ (Oper.mk _ (Op.store _ _ _) _ _ _ _ :: _) _ _); first | ((with_reducible apply wq_stW hm); (exact rfl); infer_instance; (exact rfl); (exact rfl); (focus ((repeat (first | exact .hd | assumption | apply Swap.tl)); done)); (focus (first | rfl | omega | (simp; done) | (simp; omega) | fail)); (focus (first | rfl | omega | (simp; done) | (simp; omega) | fail)); (focus (first | exact one_map _ | (simp [one8, one32, one64]; done) | fail))) | fail)); clear hm; intro w hm) | ((first | ((with_reducible show wpList _ _ _ (Oper.mk _ (Op.alloc _) _ _ _ _ :: _) _ _); first | ((with_reducible apply wq_new hm); (exact rfl); infer_instance) | fail)); clear hm; (first | (have hx_ := g1; clear hx_; (first | (have hx_ := g2; clear hx_; (first | (have hx_ := g3; clear hx_; (first | (have hx_ := g4; clear hx_; (first | (have hx_ := g5; clear hx_; (first | (have hx_ := g6; clear hx_; (first | (have hx_ := g7; clear hx_; (first | (have hx_ := g8; clear hx_; (first | (have hx_ := g9; clear hx_; intro g10) | intro g9)) | intro g8)) | intro g7)) | intro g6)) | intro g5)) | intro g4)) | intro g3)) | intro g2)) | intro g1); intro w hm) | fail)
      have kr := fun wx (hwx : Ext w wx) => KeyR.own (g := g) (gt := gt) (gb := gb) OKK.out (hm.ext hwx) (by repeat (first | exact Has.hd | assumption | apply Has.tl)) (by repeat (first | exact Has.hd | assumption | apply Has.tl))
      have hx0 := hm.x
      refine region_at 36 (fun w' => Ext _ w') 77 (by kernel_rfl) (by kernel_rfl) rfl (fun _ _ h k => h.trans k) (drew_ext _) ?_
      simp only [List.take_succ_cons, List.take_zero, List.drop_succ_cons, List.drop_zero, List.map_cons, List.map_nil]
      repeat (first
          | (apply walk_is rfl rfl rfl; (intro wx hwx; (with_reducible apply gq_ld1 (hm.ext hwx)); infer_instance; (exact rfl); (focus ((repeat (first | exact .hd | assumption | apply Has.tl)); done)); (exact F1.out)); (simp only [Act.put, List.setIfInBounds_toArray, List.set_cons_succ, List.set_cons_zero]; rfl))
          | (apply walk_is rfl rfl rfl; (intro wx hwx; (with_reducible apply gq_ld1 (hm.ext hwx)); infer_instance; (exact rfl); (focus ((repeat (first | exact .hd | assumption | apply Has.tl)); done)); (exact F2.out)); (simp only [Act.put, List.setIfInBounds_toArray, List.set_cons_succ, List.set_cons_zero]; rfl))
          | (apply walk_is rfl rfl rfl; (intro wx hwx; (with_reducible apply gq_ldN (hm.ext hwx)); infer_instance; (exact rfl); (focus ((repeat (first | exact .hd | assumption | apply Has.tl)); done)); (exact F3.out); (exact ((List.length_map ..).trans HXL.out))); (simp only [Act.put, List.setIfInBounds_toArray, List.set_cons_succ, List.set_cons_zero]; rfl))
          | (apply walk_some (TabQ) 47 (TabQ.stable) rfl rfl rfl rfl
             · (intro wx hwx; go_simp; with_reducible exact gives_callR (TQ.out wx (hx0.trans hwx))))
          | (apply walk_some (KeysS (tenK K)) 59 (KeysS.stable _) rfl rfl rfl rfl; (intro wx hwx; exact gq_bs10 (EACH.out) (bs_run10 K.i K.j K.l K.i K.j K.l K.i K.j K.l K.i li lj ll li lj ll li lj ll li wx) rfl rfl rfl rfl rfl rfl rfl rfl rfl rfl))
          | (apply walk_from (T := [(59, KeysS (tenK K)), (47, TabQ)]) rfl rfl
             · (intro wx hwx; simp only [withS]; (rintro x_ ⟨p', c', rfl, hlc, hk'⟩ y_ ⟨gq, gb', rfl, hrq⟩); refine ⟨rfl, ?_⟩; go_simp; exact gives_call (R1.out wx gq gb' p' c' hlc hk' hrq))
             · (simp only [Act.put, List.setIfInBounds_toArray, List.set_cons_succ, List.set_cons_zero]; rfl))
          | (apply walk_is rfl rfl rfl
             · (intro wx hwx; first | ((with_reducible show gives _ _ _ (Sem.run _ (execOp _ (Oper.mk _ (Op.load _ _) _ _ _ _)) _)); first | ((with_reducible apply gq_ldv (hm.ext hwx)); infer_instance; (exact rfl); (focus ((repeat (first | exact .hd | assumption | apply Has.tl)); done)); (focus (first | omega | (simp; omega) | (refine Nat.lt_of_lt_of_le (BitVec.isLt _) ?_; first | omega | (simp; done) | (simp; omega) | fail) | fail))) | ((with_reducible apply gq_ldW (hm.ext hwx)); infer_instance; (exact rfl); (focus ((repeat (first | exact .hd | assumption | apply Has.tl)); done)); (focus (first | rfl | omega | (simp; done) | (simp; omega) | fail))) | ((with_reducible apply gq_ld1 (hm.ext hwx)); infer_instance; (exact rfl); (focus ((repeat (first | exact .hd | assumption | apply Has.tl)); done)); (exact rfl)) | fail) | (go_simp; (try go_bits); first | exact gives_same | exact gives_skip | with_reducible exact gives_call (E1.out wx (kr wx hwx)) | with_reducible exact gives_call (E0.out wx (kr wx hwx)) | with_reducible exact gives_call (AW.out wx (hx0.trans hwx))))
             · (simp only [Act.put, List.setIfInBounds_toArray, List.set_cons_succ, List.set_cons_zero]; rfl))
          | (apply walk_not rfl rfl rfl
             · (simp only [Act.put, List.setIfInBounds_toArray, List.set_cons_succ, List.set_cons_zero]; rfl)))
      intro wz hwz
      simp only [List.zip_cons_cons, List.zip_nil_right]
      repeat (first | rw [fin_is] | (rw [fin_cons]; intro _ _))
      rw [fin_nil]
      try (replace hm := hm.ext hwz)
      simp only [Act.put, List.setIfInBounds_toArray, List.set_cons_succ, List.set_cons_zero]
      go_wp2_with fail
      go_ret
      exact ⟨rfl, hm.x⟩

end Go.Proofs.YtiopgmnilchjkaaDoor
