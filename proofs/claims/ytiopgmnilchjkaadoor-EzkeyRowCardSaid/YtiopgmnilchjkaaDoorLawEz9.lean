/-
  Layer 15: eight numbers on an offset has one doubling more. Conditions: the program's variables lie as its text lays them.
-/
import Derived.Test.YtiopgmnilchjkaaDoorLawEz1
namespace Go.Proofs.YtiopgmnilchjkaaDoor
open Go Go.RowKit
set_option maxRecDepth 100000
set_option linter.unusedVariables false
set_option linter.unusedSimpArgs false

theorem row_sum (K : KeyP) (h : K.Ok) (n : Nat) : bothL (offN K 0 n) (dblN K.i (upN n)) = mulL (BitVec.ofNat 64 (n % 8)) K.l := by
  rw [offN, show BitVec.ofNat 64 0 = 0#64 from rfl, mul_zero, zero_both _ (dblN_length _ h.hi _), both_comm (dblN K.i (upN n)), both_back _ _ (mulL_length _ _)]
theorem up_eight (n : Nat) : upN (n + 8) = upN n + 1 := by unfold upN; omega
set_option maxHeartbeats 8000000 in
theorem ezrow_walk (key : List Byte) (p : Option Addr) (c : Nat) (j i : Int) (X : List Byte) (z : BitVec 32) (w0 : World) (hk : RdB w0 p key) (hkc : key.length ≤ c) (hkm : key.length ≤ maxLen) (hj0 : -9223372036854775808 ≤ j) (hj1 : j ≤ 9223372036854775807) (hi0 : -9223372036854775808 ≤ i) (hi1 : i ≤ 9223372036854775807) (hX : X.length = 16) (hc : Coef w0 ∧ CoefB w0) :
    Calls Tryd.prog 9 #[.agg (askedC p key.length c j i X).toArray, v32 z] w0 fun e w' => e = .returned (.bool true) ∧ Ext w0 w' := by
  have hm := Own.start w0
  have HC := Lib.hid hc.1
  have HB := Lib.hid hc.2
  have HK := Lib.hid hk
  have HXL := Lib.hid hX
  have F0 := Lib.hid (askedC_key (p := p) (n := key.length) (c := c) (j := j) (i := i) (X := X))
  have F1 := Lib.hid (askedC_j (p := p) (n := key.length) (c := c) (j := j) (i := i) (X := X))
  have F2 := Lib.hid (askedC_i (p := p) (n := key.length) (c := c) (j := j) (i := i) (X := X))
  have F3 := Lib.hid (askedC_x (p := p) (n := key.length) (c := c) (j := j) (i := i) hX)
  have lS := askedC_length (p := p) (n := key.length) (c := c) (j := j) (i := i) hX
  have CR := Lib.hid fun w => right15_any key p c w
  have KB := Lib.hid fun (h : rightL key = false) (w : World) (h1 : Coef w) => keys15_bad key p c w h h1
  have KO := Lib.hid fun (h : rightL key = true) (w : World) (h1 : RdB w p key) (h2 : Coef w) (h3 : CoefB w) => keys15_ok key p c w h hkc h1 h2 h3
  have AW := Lib.hid fun (w : World) (h : Ext w0 w) => awake15 w ⟨hc.1.ext h, hc.2.ext h⟩
  have OKK := Lib.hid (keyOf_ok key)
  generalize askedC p key.length c j i X = S at *
  generalize keyOf key = K at *
  clear hc hk hX
  cases hR : rightL key with
  | false =>
    rw [hR] at CR
    go_enter Tryd.func9, Tryd.ntmps9
    go_wp2_with (first | ((with_reducible apply wq_ld1 hm); (exact rfl); infer_instance; (exact rfl); (focus ((repeat (first | exact .hd | assumption | apply Has.tl)); done)); (exact F0.out)) | ((first | ((with_reducible show wpList _ _ _ (Oper.mk _ (Op.box _ _) _ _ _ _ :: _) _ _); first | ((with_reducible apply wq_boxN hm); (exact rfl); (exact rfl)) | fail)); clear hm; (first | (have hx_ := g1; clear hx_; (first | (have hx_ := g2; clear hx_; (first | (have hx_ := g3; clear hx_; (first | (have hx_ := g4; clear hx_; (first | (have hx_ := g5; clear hx_; (first | (have hx_ := g6; clear hx_; (first | (have hx_ := g7; clear hx_; (first | (have hx_ := g8; clear hx_; (first | (have hx_ := g9; clear hx_; intro g10) | intro g9)) | intro g8)) | intro g7)) | intro g6)) | intro g5)) | intro g4)) | intro g3)) | intro g2)) | intro g1); intro w hm) | fail)
    refine (KB.out hR _ (HC.out.ext hm.x)).mono ?_
    rintro e w ⟨rfl, hx_⟩
    replace hm := hm.ext hx_
    clear hx_
    go_wp2_with (first | ((with_reducible apply wq_ld1 hm); (exact rfl); infer_instance; (exact rfl); (focus ((repeat (first | exact .hd | assumption | apply Has.tl)); done)); (exact F0.out)) | (go_at_call 19; (with_reducible refine (CR.out _).mono ?_); rintro e_ w_ ⟨rfl, rfl⟩) | fail)
    go_ret
    exact ⟨rfl, hm.x⟩
  | true =>
    by_cases h1 : 2147483648 ≤ z.toNat
    · have a1 : decide ((2147483648 : Int) ≤ (z.toNat : Int)) = true := decide_eq_true (by omega)
      have a3 : decide ((z.toNat : Int) ≥ 2147483648) = true := decide_eq_true (by omega)
      have a4 : (2147483648 : Int) ≤ (z.toNat : Int) := by omega
      go_enter Tryd.func9, Tryd.ntmps9
      go_wp2_with (first | ((with_reducible apply wq_ld1 hm); (exact rfl); infer_instance; (exact rfl); (focus ((repeat (first | exact .hd | assumption | apply Has.tl)); done)); (exact F0.out)) | ((first | ((with_reducible show wpList _ _ _ (Oper.mk _ (Op.box _ _) _ _ _ _ :: _) _ _); first | ((with_reducible apply wq_boxN hm); (exact rfl); (exact rfl)) | fail)); clear hm; (first | (have hx_ := g1; clear hx_; (first | (have hx_ := g2; clear hx_; (first | (have hx_ := g3; clear hx_; (first | (have hx_ := g4; clear hx_; (first | (have hx_ := g5; clear hx_; (first | (have hx_ := g6; clear hx_; (first | (have hx_ := g7; clear hx_; (first | (have hx_ := g8; clear hx_; (first | (have hx_ := g9; clear hx_; intro g10) | intro g9)) | intro g8)) | intro g7)) | intro g6)) | intro g5)) | intro g4)) | intro g3)) | intro g2)) | intro g1); intro w hm) | fail)
      refine (KO.out hR _ (HK.out.ext hm.x) (HC.out.ext hm.x) (HB.out.ext hm.x)).mono ?_
      rintro e w ⟨g, gt, gb, rfl, hg_, hgt_, hne_, hrk_, hrt_, hx_⟩
      replace hm := hm.push2 hx_ hgt_ hrt_ hg_ hrk_ hne_
      clear hx_ hg_ hgt_ hne_ hrk_ hrt_
      rw [hR] at CR
      go_wp2_with (first | ((with_reducible apply wq_ld1 hm); (exact rfl); infer_instance; (exact rfl); (focus ((repeat (first | exact .hd | assumption | apply Has.tl)); done)); (exact F0.out)) | (go_at_call 19; (with_reducible refine (CR.out _).mono ?_); rintro e_ w_ ⟨rfl, rfl⟩) | fail)
      go_ret
      exact ⟨rfl, hm.x⟩
    · have a1 : decide ((2147483648 : Int) ≤ (z.toNat : Int)) = false := decide_eq_false (by omega)
      have a3 : decide ((z.toNat : Int) ≥ 2147483648) = false := decide_eq_false (by omega)
      have a4 : ¬ (2147483648 : Int) ≤ (z.toNat : Int) := by omega
      go_enter Tryd.func9, Tryd.ntmps9
      go_wp2_with (first | ((with_reducible apply wq_ld1 hm); (exact rfl); infer_instance; (exact rfl); (focus ((repeat (first | exact .hd | assumption | apply Has.tl)); done)); (exact F0.out)) | ((first | ((with_reducible show wpList _ _ _ (Oper.mk _ (Op.box _ _) _ _ _ _ :: _) _ _); first | ((with_reducible apply wq_boxN hm); (exact rfl); (exact rfl)) | fail)); clear hm; (first | (have hx_ := g1; clear hx_; (first | (have hx_ := g2; clear hx_; (first | (have hx_ := g3; clear hx_; (first | (have hx_ := g4; clear hx_; (first | (have hx_ := g5; clear hx_; (first | (have hx_ := g6; clear hx_; (first | (have hx_ := g7; clear hx_; (first | (have hx_ := g8; clear hx_; (first | (have hx_ := g9; clear hx_; intro g10) | intro g9)) | intro g8)) | intro g7)) | intro g6)) | intro g5)) | intro g4)) | intro g3)) | intro g2)) | intro g1); intro w hm) | fail)
      refine (KO.out hR _ (HK.out.ext hm.x) (HC.out.ext hm.x) (HB.out.ext hm.x)).mono ?_
      rintro e w ⟨g, gt, gb, rfl, hg_, hgt_, hne_, hrk_, hrt_, hx_⟩
      replace hm := hm.push2 hx_ hgt_ hrt_ hg_ hrk_ hne_
      clear hx_ hg_ hgt_ hne_ hrk_ hrt_
      rw [hR] at CR
      obtain ⟨n, hn⟩ : ∃ n : Nat, z.toNat = n := ⟨_, rfl⟩
      obtain ⟨r, hr, hr8⟩ : ∃ r : Nat, n % 8 = r ∧ r < 8 := ⟨_, rfl, Nat.mod_lt _ (by omega)⟩
      obtain ⟨u, hu, hu8⟩ : ∃ u : Nat, n / 8 = u ∧ u ≤ 268435456 := ⟨_, rfl, by omega⟩
      have b1 : (z.toNat : Int) % 8 = (r : Int) := by omega
      have b2 : (z.toNat : Int).tmod 8 = (r : Int) := by rw [Int.tmod_eq_emod_of_nonneg (by omega)]; exact b1
      have b3 : (z.toNat : Int) / 8 = (u : Int) := by omega
      have b4 : (z.toNat : Int).tdiv 8 = (u : Int) := by rw [Int.tdiv_eq_ediv_of_nonneg (by omega)]; exact b3
      have hzn : z.toNat < 2147483648 := by omega
      have li := OKK.out.hi
      have ll := OKK.out.hl
      have D1 : Hid (∀ (wx : World), KeyR wx g K → Gives Tryd.prog 26 #[.pointer (some ⟨g, 0, none⟩), .int .i64 0, .int .i64 (z.toNat : Int)] wx (A8 (offN K 0 z.toNat))) := Lib.hid fun wx h => off_pos g K 0 z.toNat wx h (by omega) (by omega)
      have D2 : Hid (∀ (wx : World), KeyR wx g K → Gives Tryd.prog 26 #[.pointer (some ⟨g, 0, none⟩), .int .i64 0, .int .i64 ((z.toNat : Int) + 8)] wx (A8 (offN K 0 (z.toNat + 8)))) := Lib.hid fun wx h => by
        have := off_pos g K 0 (z.toNat + 8) wx h (by omega) (by omega)
        rwa [show ((z.toNat + 8 : Nat) : Int) = (z.toNat : Int) + 8 by omega] at this
      have PT0 : Hid (∀ (wx : World), KeyR wx g K → Gives Tryd.prog 20 #[.pointer (some ⟨g, 0, none⟩), .int .i64 0] wx (A8 K.i)) := Lib.hid fun wx h => part_any g K 0 wx h
      have PT2 : Hid (∀ (wx : World), KeyR wx g K → Gives Tryd.prog 20 #[.pointer (some ⟨g, 0, none⟩), .int .i64 2] wx (A8 K.l)) := Lib.hid fun wx h => part_any g K 2 wx h
      have M1 : Hid (∀ wx, Gives Tryd.prog 30 #[.int .u64 (r : Int), A8 K.l] wx (A8 (mulL (BitVec.ofNat 64 r) K.l))) := Lib.hid fun wx => by rw [natv64 (by omega)]; exact ring_mul _ K.l ll wx
      have lM := mulL_length (BitVec.ofNat 64 r) K.l
      have lO1 := offN_length K 0 z.toNat
      have lO2 := offN_length K 0 (z.toNat + 8)
      have lU1 := dblN_length K.i li (upN z.toNat)
      have lU2 := dblN_length K.i li (upN z.toNat + 1)
      have e1 := row_sum K OKK.out z.toNat
      have e2 := row_sum K OKK.out (z.toNat + 8)
      rw [show z.toNat % 8 = r by omega] at e1
      rw [show (z.toNat + 8) % 8 = r by omega, up_eight] at e2
      have p1 := fun wx => plus15_any (offN K 0 z.toNat) (dblN K.i (upN z.toNat)) lO1 lU1 wx
      have p2 := fun wx => plus15_any (offN K 0 (z.toNat + 8)) (dblN K.i (upN z.toNat + 1)) lO2 lU2 wx
      rw [e1] at p1
      rw [e2] at p2
      have P1 := Lib.hid p1
      have P2 := Lib.hid p2
      have UB : upN z.toNat + 1 ≤ 9223372036854775807 := by unfold upN; omega
      have r1 := fun wx => ring_raised (upN z.toNat) K.i li (by omega) wx
      have r2 := fun wx => ring_raised (upN z.toNat + 1) K.i li UB wx
      by_cases hr0 : r = 0
      · have eu : upN z.toNat = u := by unfold upN; omega
        have c1 : decide ((0 : Int) < (r : Int)) = false := decide_eq_false (by omega)
        have c2 : ¬ (0 : Int) < (r : Int) := by omega
        have c3 : ¬ 0 < r := by omega
        rw [eu] at r1 r2 P1 P2 lU1 lU2
        rw [show ((u + 1 : Nat) : Int) = (u : Int) + 1 by omega] at r2
        have R1 := Lib.hid r1
        have R2 := Lib.hid r2
        have R3 := Lib.hid r2
        clear r1 r2 p1 p2 e1 e2 UB eu hn hr hu hr0
        generalize mulL (BitVec.ofNat 64 r) K.l = M at *
        generalize offN K 0 z.toNat = O1 at *
        generalize offN K 0 (z.toNat + 8) = O2 at *
        generalize dblN K.i u = U1 at *
        generalize dblN K.i (u + 1) = U2 at *
        go_wp2_with (first | ((with_reducible apply wq_ld1 hm); (exact rfl); infer_instance; (exact rfl); (focus ((repeat (first | exact .hd | assumption | apply Has.tl)); done)); (exact F0.out)) | (go_at_call 19; (with_reducible refine (CR.out _).mono ?_); rintro e_ w_ ⟨rfl, rfl⟩) | (go_at_call 26; (with_reducible refine (D1.out _ (KeyR.own (g := g) (gt := gt) (gb := gb) OKK.out hm (by repeat (first | exact Has.hd | assumption | apply Has.tl)) (by repeat (first | exact Has.hd | assumption | apply Has.tl)))).mono ?_); rintro e_ w ⟨rfl, hx_⟩; replace hm := hm.ext hx_; clear hx_) | (go_at_call 26; (with_reducible refine (D2.out _ (KeyR.own (g := g) (gt := gt) (gb := gb) OKK.out hm (by repeat (first | exact Has.hd | assumption | apply Has.tl)) (by repeat (first | exact Has.hd | assumption | apply Has.tl)))).mono ?_); rintro e_ w ⟨rfl, hx_⟩; replace hm := hm.ext hx_; clear hx_) | (go_at_call 20; (with_reducible refine (PT0.out _ (KeyR.own (g := g) (gt := gt) (gb := gb) OKK.out hm (by repeat (first | exact Has.hd | assumption | apply Has.tl)) (by repeat (first | exact Has.hd | assumption | apply Has.tl)))).mono ?_); rintro e_ w ⟨rfl, hx_⟩; replace hm := hm.ext hx_; clear hx_) | (go_at_call 32; (with_reducible refine (R1.out _).mono ?_); rintro e_ w ⟨rfl, hx_⟩; replace hm := hm.ext hx_; clear hx_) | (go_at_call 32; (with_reducible refine (R2.out _).mono ?_); rintro e_ w ⟨rfl, hx_⟩; replace hm := hm.ext hx_; clear hx_) | (go_at_call 29; (with_reducible refine (P1.out _).mono ?_); rintro e_ w ⟨rfl, hx_⟩; replace hm := hm.ext hx_; clear hx_) | (go_at_call 29; (with_reducible refine (P2.out _).mono ?_); rintro e_ w ⟨rfl, hx_⟩; replace hm := hm.ext hx_; clear hx_) | ((((with_reducible show wpList _ _ _ (Oper.mk _ (Op.store _ _ _) _ _ _ _ :: _) _ _); first | ((with_reducible apply wq_stW hm); (exact rfl); infer_instance; (exact rfl); (exact rfl); (focus ((repeat (first | exact .hd | assumption | apply Swap.tl)); done)); (focus (first | rfl | omega | (simp; done) | (simp; omega) | fail)); (focus (first | rfl | omega | (simp; done) | (simp; omega) | fail)); (focus (first | exact one_map _ | (simp [one8, one32, one64]; done) | fail))) | fail)); clear hm; intro w hm) | ((first | ((with_reducible show wpList _ _ _ (Oper.mk _ (Op.alloc _) _ _ _ _ :: _) _ _); first | ((with_reducible apply wq_new hm); (exact rfl); infer_instance) | fail)); clear hm; (first | (have hx_ := g1; clear hx_; (first | (have hx_ := g2; clear hx_; (first | (have hx_ := g3; clear hx_; (first | (have hx_ := g4; clear hx_; (first | (have hx_ := g5; clear hx_; (first | (have hx_ := g6; clear hx_; (first | (have hx_ := g7; clear hx_; (first | (have hx_ := g8; clear hx_; (first | (have hx_ := g9; clear hx_; intro g10) | intro g9)) | intro g8)) | intro g7)) | intro g6)) | intro g5)) | intro g4)) | intro g3)) | intro g2)) | intro g1); intro w hm) | fail)
        have kr := fun wx (hwx : Ext w wx) => KeyR.own (g := g) (gt := gt) (gb := gb) OKK.out (hm.ext hwx) (by repeat (first | exact Has.hd | assumption | apply Has.tl)) (by repeat (first | exact Has.hd | assumption | apply Has.tl))
        have hx0 := hm.x
        refine region_at 16 (fun w' => Ext _ w') 70 (by kernel_rfl) (by kernel_rfl) rfl (fun _ _ h k => h.trans k) (drew_ext _) ?_
        simp only [List.take_succ_cons, List.take_zero, List.drop_succ_cons, List.drop_zero, List.map_cons, List.map_nil]
        repeat (first
            | (apply walk_is rfl rfl rfl
               · (intro wx hwx; first | ((with_reducible show gives _ _ _ (Sem.run _ (execOp _ (Oper.mk _ (Op.load _ _) _ _ _ _)) _)); first | ((with_reducible apply gq_ldv (hm.ext hwx)); infer_instance; (exact rfl); (focus ((repeat (first | exact .hd | assumption | apply Has.tl)); done)); (focus (first | omega | (simp; omega) | (refine Nat.lt_of_lt_of_le (BitVec.isLt _) ?_; first | omega | (simp; done) | (simp; omega) | fail) | fail))) | ((with_reducible apply gq_ldW (hm.ext hwx)); infer_instance; (exact rfl); (focus ((repeat (first | exact .hd | assumption | apply Has.tl)); done)); (focus (first | rfl | omega | (simp; done) | (simp; omega) | fail))) | ((with_reducible apply gq_ld1 (hm.ext hwx)); infer_instance; (exact rfl); (focus ((repeat (first | exact .hd | assumption | apply Has.tl)); done)); (exact rfl)) | fail) | (go_simp; (try go_bits); first | exact gives_same | exact gives_skip | with_reducible exact gives_call (PT2.out wx (kr wx hwx)) | with_reducible exact gives_call (M1.out wx) | with_reducible exact gives_call (AW.out wx (hx0.trans hwx))))
               · (simp only [Act.put, List.setIfInBounds_toArray, List.set_cons_succ, List.set_cons_zero]; rfl))
            | (apply walk_not rfl rfl rfl
               · (simp only [Act.put, List.setIfInBounds_toArray, List.set_cons_succ, List.set_cons_zero]; rfl)))
        intro wz hwz
        simp only [List.zip_cons_cons, List.zip_nil_right]
        repeat (first | rw [fin_is] | (rw [fin_cons]; intro _ _))
        rw [fin_nil]
        try (replace hm := hm.ext hwz)
        simp only [Act.put, List.setIfInBounds_toArray, List.set_cons_succ, List.set_cons_zero]
        go_wp2_with fail
        go_ret
        exact ⟨rfl, hm.x⟩
      · have eu : upN z.toNat = u + 1 := by unfold upN; omega
        have c1 : decide ((0 : Int) < (r : Int)) = true := decide_eq_true (by omega)
        have c2 : (0 : Int) < (r : Int) := by omega
        have c3 : 0 < r := by omega
        rw [eu] at r1 r2 P1 P2 lU1 lU2
        have r3 := r2
        rw [show ((u + 1 : Nat) : Int) = (u : Int) + 1 by omega] at r1
        rw [show ((u + 1 + 1 : Nat) : Int) = (u : Int) + 2 by omega] at r2
        rw [show ((u + 1 + 1 : Nat) : Int) = (u : Int) + 1 + 1 by omega] at r3
        have R1 := Lib.hid r1
        have R2 := Lib.hid r2
        have R3 := Lib.hid r3
        clear r3
        clear r1 r2 p1 p2 e1 e2 UB eu hn hr hu hr0
        generalize mulL (BitVec.ofNat 64 r) K.l = M at *
        generalize offN K 0 z.toNat = O1 at *
        generalize offN K 0 (z.toNat + 8) = O2 at *
        generalize dblN K.i (u + 1) = U1 at *
        generalize dblN K.i (u + 1 + 1) = U2 at *
        go_wp2_with (first | ((with_reducible apply wq_ld1 hm); (exact rfl); infer_instance; (exact rfl); (focus ((repeat (first | exact .hd | assumption | apply Has.tl)); done)); (exact F0.out)) | (go_at_call 19; (with_reducible refine (CR.out _).mono ?_); rintro e_ w_ ⟨rfl, rfl⟩) | (go_at_call 26; (with_reducible refine (D1.out _ (KeyR.own (g := g) (gt := gt) (gb := gb) OKK.out hm (by repeat (first | exact Has.hd | assumption | apply Has.tl)) (by repeat (first | exact Has.hd | assumption | apply Has.tl)))).mono ?_); rintro e_ w ⟨rfl, hx_⟩; replace hm := hm.ext hx_; clear hx_) | (go_at_call 26; (with_reducible refine (D2.out _ (KeyR.own (g := g) (gt := gt) (gb := gb) OKK.out hm (by repeat (first | exact Has.hd | assumption | apply Has.tl)) (by repeat (first | exact Has.hd | assumption | apply Has.tl)))).mono ?_); rintro e_ w ⟨rfl, hx_⟩; replace hm := hm.ext hx_; clear hx_) | (go_at_call 20; (with_reducible refine (PT0.out _ (KeyR.own (g := g) (gt := gt) (gb := gb) OKK.out hm (by repeat (first | exact Has.hd | assumption | apply Has.tl)) (by repeat (first | exact Has.hd | assumption | apply Has.tl)))).mono ?_); rintro e_ w ⟨rfl, hx_⟩; replace hm := hm.ext hx_; clear hx_) | (go_at_call 32; (with_reducible refine (R1.out _).mono ?_); rintro e_ w ⟨rfl, hx_⟩; replace hm := hm.ext hx_; clear hx_) | (go_at_call 32; (with_reducible refine (R3.out _).mono ?_); rintro e_ w ⟨rfl, hx_⟩; replace hm := hm.ext hx_; clear hx_) | (go_at_call 29; (with_reducible refine (P1.out _).mono ?_); rintro e_ w ⟨rfl, hx_⟩; replace hm := hm.ext hx_; clear hx_) | (go_at_call 29; (with_reducible refine (P2.out _).mono ?_); rintro e_ w ⟨rfl, hx_⟩; replace hm := hm.ext hx_; clear hx_) | ((((with_reducible show wpList _ _ _ (Oper.mk _ (Op.store _ _ _) _ _ _ _ :: _) _ _); first | ((with_reducible apply wq_stW hm); (exact rfl); infer_instance; (exact rfl); (exact rfl); (focus ((repeat (first | exact .hd | assumption | apply Swap.tl)); done)); (focus (first | rfl | omega | (simp; done) | (simp; omega) | fail)); (focus (first | rfl | omega | (simp; done) | (simp; omega) | fail)); (focus (first | exact one_map _ | (simp [one8, one32, one64]; done) | fail))) | fail)); clear hm; intro w hm) | ((first | ((with_reducible show wpList _ _ _ (Oper.mk _ (Op.alloc _) _ _ _ _ :: _) _ _); first | ((with_reducible apply wq_new hm); (exact rfl); infer_instance) | fail)); clear hm; (first | (have hx_ := g1; clear hx_; (first | (have hx_ := g2; clear hx_; (first | (have hx_ := g3; clear hx_; (first | (have hx_ := g4; clear hx_; (first | (have hx_ := g5; clear hx_; (first | (have hx_ := g6; clear hx_; (first | (have hx_ := g7; clear hx_; (first | (have hx_ := g8; clear hx_; (first | (have hx_ := g9; clear hx_; intro g10) | intro g9)) | intro g8)) | intro g7)) | intro g6)) | intro g5)) | intro g4)) | intro g3)) | intro g2)) | intro g1); intro w hm) | fail)
        have kr := fun wx (hwx : Ext w wx) => KeyR.own (g := g) (gt := gt) (gb := gb) OKK.out (hm.ext hwx) (by repeat (first | exact Has.hd | assumption | apply Has.tl)) (by repeat (first | exact Has.hd | assumption | apply Has.tl))
        have hx0 := hm.x
        refine region_at 16 (fun w' => Ext _ w') 70 (by kernel_rfl) (by kernel_rfl) rfl (fun _ _ h k => h.trans k) (drew_ext _) ?_
        simp only [List.take_succ_cons, List.take_zero, List.drop_succ_cons, List.drop_zero, List.map_cons, List.map_nil]
        repeat (first
            | (apply walk_is rfl rfl rfl
               · (intro wx hwx; first | ((with_reducible show gives _ _ _ (Sem.run _ (execOp _ (Oper.mk _ (Op.load _ _) _ _ _ _)) _)); first | ((with_reducible apply gq_ldv (hm.ext hwx)); infer_instance; (exact rfl); (focus ((repeat (first | exact .hd | assumption | apply Has.tl)); done)); (focus (first | omega | (simp; omega) | (refine Nat.lt_of_lt_of_le (BitVec.isLt _) ?_; first | omega | (simp; done) | (simp; omega) | fail) | fail))) | ((with_reducible apply gq_ldW (hm.ext hwx)); infer_instance; (exact rfl); (focus ((repeat (first | exact .hd | assumption | apply Has.tl)); done)); (focus (first | rfl | omega | (simp; done) | (simp; omega) | fail))) | ((with_reducible apply gq_ld1 (hm.ext hwx)); infer_instance; (exact rfl); (focus ((repeat (first | exact .hd | assumption | apply Has.tl)); done)); (exact rfl)) | fail) | (go_simp; (try go_bits); first | exact gives_same | exact gives_skip | with_reducible exact gives_call (PT2.out wx (kr wx hwx)) | with_reducible exact gives_call (M1.out wx) | with_reducible exact gives_call (AW.out wx (hx0.trans hwx))))
               · (simp only [Act.put, List.setIfInBounds_toArray, List.set_cons_succ, List.set_cons_zero]; rfl))
            | (apply walk_not rfl rfl rfl
               · (simp only [Act.put, List.setIfInBounds_toArray, List.set_cons_succ, List.set_cons_zero]; rfl)))
        intro wz hwz
        simp only [List.zip_cons_cons, List.zip_nil_right]
        repeat (first | rw [fin_is] | (rw [fin_cons]; intro _ _))
        rw [fin_nil]
        try (replace hm := hm.ext hwz)
        simp only [Act.put, List.setIfInBounds_toArray, List.set_cons_succ, List.set_cons_zero]
        go_wp2_with fail
        go_ret
        exact ⟨rfl, hm.x⟩

end Go.Proofs.YtiopgmnilchjkaaDoor
