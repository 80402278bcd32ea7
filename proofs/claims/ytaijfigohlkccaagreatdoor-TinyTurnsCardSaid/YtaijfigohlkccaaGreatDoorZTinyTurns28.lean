/-
  Layer 19, the document's: a short message, deciphered. Conditions: those written in the theorem.
-/
import Derived.Test.YtaijfigohlkccaaGreatDoorZTinyTurns0
import Derived.Test.YtaijfigohlkccaaGreatDoorZTinyTurns27
namespace Go.Proofs.YtaijfigohlkccaaGreatDoor
open Go Go.RowKit
set_option maxRecDepth 100000
set_option linter.unusedVariables false
set_option linter.unusedSimpArgs false

set_option maxHeartbeats 16000000 in
theorem rdecipher19 (R : List Byte) (hR : R.length = 560) (F : Int → Int → List Byte → List Byte) (hF : ∀ j m x, (F j m x).length = 16) (ls : List (List Byte)) (q : Option Addr) (d : Nat) (l : List Byte) (p : Option Addr) (c : Nat) (w0 : World) (hr : RdR w0 q ls) (hrd : ls.length ≤ d) (hrm : ls.length ≤ 70368744177000) (hrs : ∀ i, (ls.getD i []).length ≤ 70368744177000) (hl : RdB w0 p l) (h1 : 1 ≤ l.length) (h31 : l.length ≤ 31)
    (CE : ∀ wx, Ext w0 wx → ∀ (j m : Int) (x : List Byte), x.length = 16 → -1 ≤ j → j ≤ 9223372036854775807 → 0 ≤ m → m ≤ 9223372036854775807 → Gives Tryz.prog 44 #[A8 R, .int .i64 j, .int .i64 m, A8 x] wx (A8 (F j m x))) :
    GivesR Tryz.prog 20 #[A8 R, .slice q ls.length d, .slice p l.length c] w0 (BytesS (tinyL F (hashG F ls) true l)) := by
  unfold GivesR
  have hm := Own.start w0
  have H1 := Lib.hid fun (wx : World) (hx : Ext w0 wx) => rhash_from R hR F hF ls q d wx (hr.ext hx) hrd hrm hrs (fun wy hy => CE wy (hx.trans hy))
  obtain ⟨H, hH⟩ : ∃ H, H = hashG F ls := ⟨_, rfl⟩
  have lH : H.length = 16 := by rw [hH]; exact hashG_length F ls
  rw [← hH] at H1 ⊢
  obtain ⟨n, hn⟩ : ∃ n, n = l.length := ⟨_, rfl⟩
  obtain ⟨m, hm0⟩ : ∃ m, m = flipL F H l := ⟨_, rfl⟩
  have lm : m.length = n := by rw [hm0, hn]; exact flipL_length _ _ _
  obtain ⟨NN, hNN⟩ : ∃ N, N = numN n := ⟨_, rfl⟩
  have N9 : 0 ≤ NN ∧ NN ≤ 9 := by rw [hNN]; unfold numN; split <;> omega
  obtain ⟨RN, hRN⟩ : ∃ R, R = roundsN n := ⟨_, rfl⟩
  have R24 : RN ≤ 24 := by rw [hRN]; unfold roundsN; split <;> (try split) <;> (try split) <;> (try split) <;> omega
  obtain ⟨RT, hRT⟩ : ∃ RT, RT = rndsT (stepL F H NN) (ordN true RN) (pairT m) := ⟨_, rfl⟩
  have HTW := Lib.hid fun k => show TwoN n (RT k) from by rw [hRT, ← lm]; exact rndsT_two _ (stepL_length F H NN) (stepL_ok F H NN) _ _ _ (pairT_two m) k
  have HST := Lib.hid fun k => show RT (k + 1) = ((RT k).2, xorL (RT k).1 (stepL F H NN (ordN true RN k) (RT k).2)) from by rw [hRT]; rfl
  have H00 := Lib.hid (show RT 0 = (halvesL m 0 n, halvesL m n n) from by rw [hRT, ← lm]; rfl)
  obtain ⟨J, hJ⟩ : ∃ J, J = joinN ((RT RN).2 ++ (RT RN).1) := ⟨_, rfl⟩
  have lJ : J.length = n := by rw [hJ, joinN_length, List.length_append, (HTW.out RN).l, (HTW.out RN).r]; omega
  have eT : tinyL F H true l = J := by
    rw [hJ, hRT, hNN, hRN, ← lm, hm0]; rfl
  rw [eT]
  have RC := Lib.hid fun w => (hRN ▸ rounds19 n (by omega) (by omega) w : Gives Tryz.prog 16 #[.int .i64 (n : Int)] w (.int .i64 (RN : Int)))
  have NC := Lib.hid fun w => (hNN ▸ number19 n w : Gives Tryz.prog 51 #[.int .i64 (n : Int)] w (.int .i64 NN))
  have SC := Lib.hid fun (w : World) (x : List Byte) (px : Option Addr) (cx j : Nat) (hx : Ext w0 w) (lx : x.length = n) (hj : j ≤ 9223372036854775807) (hr : RdB w px x) => show GivesR Tryz.prog 25 #[A8 R, A8 H, .int .i64 NN, .int .i64 (j : Int), .slice px n cx] w (BytesS (stepL F H NN j x)) from by
    have := rstepB R hR F hF H lH NN N9.1 (by omega) j hj x px cx (by omega) w hr (fun wx h => CE wx (hx.trans h))
    rwa [lx] at this
  have XC := Lib.hid fun (w : World) (a b : List Byte) (pa pb : Option Addr) (ca cb : Nat) (la : a.length = n) (lb : b.length = n) (ha : RdB w pa a) (hb : RdB w pb b) => show GivesR Tryz.prog 47 #[.slice pa n ca, .slice pb b.length cb] w (BytesS (xorL a b)) from by
    have := rxor_any a b pa pb ca cb w ha hb (by omega) (by omega)
    rwa [la] at this
  have FC := Lib.hid fun (w : World) (a : List Byte) (px : Option Addr) (cx : Nat) (hx : Ext w0 w) (la : a.length = n) (ha : RdB w px a) => show GivesR Tryz.prog 24 #[A8 R, A8 H, .slice px n cx] w (BytesS (flipL F H a)) from by
    have := rflipB R hR F hF H lH a px cx (by omega) w ha (fun wx h => CE wx (hx.trans h))
    rwa [la] at this
  have HVC := Lib.hid fun (w : World) (px : Option Addr) (cx nx : Nat) (ha : RdB w px m ∧ nx = n) => show Calls Tryz.prog 50 #[.slice px nx cx] w fun e w' => ∃ q d, e = .returned (.slice q (2 * n) d) ∧ 2 * n ≤ d ∧ RdB w' q (halvesL m 0 (2 * n)) ∧ Ext w w' from by
    rw [ha.2]
    have := rr_halves m px cx (by omega) w ha.1
    rw [lm] at this
    refine this.mono ?_
    rintro e w' ⟨v, M, rfl, hs, hmM⟩
    obtain ⟨q, d, rfl⟩ := hs.form
    obtain ⟨h1, _, h3⟩ := slo_bytes (R := []) hs (by simpa using hmM)
    exact ⟨q, d, rfl, h3, h1, hmM.x⟩
  have JC := Lib.hid fun (w : World) (p2 : Option Addr) (n2 c2 : Nat) (h : RdB w p2 ((RT RN).2 ++ (RT RN).1) ∧ n2 = ((RT RN).2 ++ (RT RN).1).length ∧ n2 ≤ c2) => show GivesR Tryz.prog 52 #[.slice p2 n2 c2] w (BytesS J) from by
    have := rr_join ((RT RN).2 ++ (RT RN).1) p2 c2 (by rw [List.length_append, (HTW.out RN).l, (HTW.out RN).r]; omega) w h.1
    rw [← hJ] at this
    rw [h.2.1]
    refine this.mono ?_
    rintro e w' ⟨v, M, rfl, hs, hmM⟩
    obtain ⟨q, d, rfl⟩ := hs.form
    obtain ⟨h1, h2, h3⟩ := slo_bytes (R := []) hs (by simpa using hmM)
    exact ⟨_, rfl, ⟨q, d, by rw [h2], by rw [← h2]; exact h3, h1⟩, hmM.x⟩
  have HTK := Lib.hid (halves_take m n)
  have HDR := Lib.hid (halves_drop m n)
  have lHA := halvesL_length m 0 (2 * n)
  obtain ⟨HA, hHA⟩ : ∃ HA, HA = halvesL m 0 (2 * n) := ⟨_, rfl⟩
  rw [← hHA] at HTK HDR HVC lHA
  obtain ⟨N2, hN2⟩ : ∃ N2, N2 = 2 * n := ⟨_, rfl⟩
  rw [← hN2] at HVC lHA
  have HL := Lib.hid hl
  have HM0 := Lib.hid hm0
  have HNL := Lib.hid hn
  have n1 : 1 ≤ n := by omega
  have n31 : n ≤ 31 := by omega
  have e1 : n ≤ N2 := by omega
  have e2 : N2 - n = n := by omega
  clear hH hRN hNN hRT hJ eT CE hF hr hm0 hl hHA
  rw [← hn]
  clear hn h1 h31 hN2
  go_enter Tryz.func20, Tryz.ntmps20
  go_wp2_with (first | (go_at_call 41; (with_reducible refine (H1.out _ hm.x).mono ?_); rintro e_ w ⟨rfl, hx_⟩; replace hm := hm.ext hx_; clear hx_) | ((with_reducible show wpList _ _ _ (Oper.mk _ (Op.load _ _) _ _ _ _ :: _) _ _); first | ((with_reducible apply wq_ldW hm); (exact rfl); infer_instance; (exact rfl); (focus ((repeat (first | exact .hd | assumption | apply Has.tl | apply Has.app)); done)); (focus (first | rfl | omega | (simp; done) | (simp; omega) | fail))) | fail) | ((((with_reducible show wpList _ _ _ (Oper.mk _ (Op.store _ _ _) _ _ _ _ :: _) _ _); first | ((with_reducible apply wq_stW hm); (exact rfl); infer_instance; (exact rfl); (exact rfl); (focus ((repeat (first | exact .hd | assumption | apply Swap.tl | apply Swap.app)); done)); (focus (first | rfl | omega | (simp; done) | (simp; omega) | fail)); (focus (first | rfl | omega | (simp; done) | (simp; omega) | fail)); (focus (first | exact one_map _ | (simp [one8, one32, one64]; done) | fail))) | fail)); clear hm; intro w hm) | ((first | ((with_reducible show wpList _ _ _ (Oper.mk _ (Op.alloc _) _ _ _ _ :: _) _ _); first | ((with_reducible apply wq_new hm); (exact rfl); infer_instance) | fail) | ((with_reducible show wpList _ _ _ (Oper.mk _ (Op.box _ _) _ _ _ _ :: _) _ _); first | ((with_reducible apply wq_boxN hm); (exact rfl); (exact rfl)) | fail)); clear hm; (first | (have hx_ := g1; clear hx_; (first | (have hx_ := g2; clear hx_; intro gx_) | intro g2)) | intro g1); intro w hm) | fail)
  refine (FC.out _ l p c hm.x HNL.out.symm (HL.out.ext hm.x)).mono ?_
  rintro e w ⟨x, rfl, ⟨px, cx, rfl, hcx, hrx⟩, hx_⟩
  replace hm := hm.ext hx_
  clear hx_
  rw [← HM0.out] at hcx hrx ⊢
  rw [lm] at hcx ⊢
  go_wp2_with fail
  refine (HVC.out _ px cx n ⟨hrx, rfl⟩).mono ?_
  rintro e w ⟨pa, ca, rfl, hca, hra, hx_⟩
  replace hm := hm.ext hx_
  have HCA := Lib.hid hca
  have HRA := Lib.hid hra
  have n5 : n ≤ ca := by omega
  clear hx_ hca hra hcx hrx
  go_wp2_with fail
  refine region_at 7 (fun w' => Ext _ w') 52 (by kernel_rfl) (by kernel_rfl) rfl (fun _ _ h k => h.trans k) (drew_ext _) ?_
  simp only [tSC, List.take_zero, dSC, List.drop_zero, List.map_cons, List.map_nil]
  repeat (first
      | (apply walk_is rfl rfl rfl; (intro wx hwx; (with_reducible apply gq_slH (h := n) Tryz.underlying22); infer_instance; exact rfl; exact rfl; exact n5); (simp only [Act.put, sIB, sCS, sCZ]; rfl))
      | (apply walk_is rfl rfl rfl; (intro wx hwx; (with_reducible apply gq_slL (l := n) (r := n) Tryz.underlying22); infer_instance; exact rfl; exact rfl; exact e1; exact e2); (simp only [Act.put, sIB, sCS, sCZ]; rfl))
      | (apply walk_is rfl rfl rfl
         · (intro wx hwx; first | ((with_reducible show gives _ _ _ (Sem.run _ (execOp _ (Oper.mk _ (Op.load _ _) _ _ _ _)) _)); first | ((with_reducible apply gq_ldv (hm.ext hwx)); infer_instance; (exact rfl); (focus ((repeat (first | exact .hd | assumption | apply Has.tl | apply Has.app)); done)); (focus (first | omega | (simp; omega) | (refine Nat.lt_of_lt_of_le (BitVec.isLt _) ?_; first | omega | (simp; done) | (simp; omega) | fail) | fail))) | ((with_reducible apply gq_ldW (hm.ext hwx)); infer_instance; (exact rfl); (focus ((repeat (first | exact .hd | assumption | apply Has.tl | apply Has.app)); done)); (focus (first | rfl | omega | (simp; done) | (simp; omega) | fail))) | ((with_reducible apply gq_ld1 (hm.ext hwx)); infer_instance; (exact rfl); (focus ((repeat (first | exact .hd | assumption | apply Has.tl | apply Has.app)); done)); (exact rfl)) | fail) | (go_simp; (try go_bits); first | exact gives_same | exact gives_skip))
         · (simp only [Act.put, sIB, sCS, sCZ]; rfl))
      | (apply walk_not rfl rfl rfl
         · (simp only [Act.put, sIB, sCS, sCZ]; rfl)))
  intro wz hwz
  simp only [zCC, zNR]
  repeat (first | rw [fin_is] | (rw [fin_cons]; intro _ _))
  rw [fin_nil]
  try (replace hm := hm.ext hwz)
  simp only [Act.put, sIB, sCS, sCZ]
  have ra := (HRA.out.ext hwz).take n
  have rb := (HRA.out.ext hwz).slL ca n (by have := HCA.out; omega)
  rw [HTK.out] at ra
  rw [HDR.out] at rb
  have hcb : n ≤ ca - n := by have := HCA.out; omega
  have e00 := H00.out
  have RA := Lib.hid (show RdB wz pa (RT 0).1 from by rw [e00]; exact ra)
  have RB := Lib.hid (show RdB wz (slP pa ca n) (RT 0).2 from by rw [e00]; exact rb)
  clear ra rb e00
  go_wp2_with fail
  refine (RC.out _).mono ?_
  rintro e w ⟨rfl, hx_⟩
  replace RA := Lib.hid (RA.out.ext hx_)
  replace RB := Lib.hid (RB.out.ext hx_)
  replace hm := hm.ext hx_
  clear hx_
  go_wp2_with fail
  go_loopw [10, 11, 12] (fun u v i wr => ∃ (k : Nat) (z : Int) (pl pr : Option Addr) (cl cr : Nat), k ≤ RN ∧ z = (RN : Int) - 1 - k ∧ i = .int .i64 z ∧ u = .slice pl n cl ∧ v = .slice pr n cr ∧ n ≤ cl ∧ n ≤ cr ∧ RdB wr pl (RT k).1 ∧ RdB wr pr (RT k).2 ∧ Own w0 wr [⟨g2, 36, H.map v8⟩, ⟨g1, 39, R.map v8⟩]) (fun _ _ i _ => (intOf i + 1).toNat)
  case atStart => exact ⟨0, (RN : Int) - 1, pa, slP pa ca n, ca, ca - n, by omega, by omega, by first | rfl | go_num, rfl, rfl, n5, hcb, RA.out, RB.out, hm⟩
  case round =>
    obtain ⟨k, z, pl, pr, cl, cr, hk, hz, rfl, rfl, rfl, hcl, hcr, hrl, hrr, hm⟩ := hrel
    have HRL := Lib.hid hrl
    have HRR := Lib.hid hrr
    have HZ := Lib.hid hz
    clear hrl hrr RA RB hz
    obtain ⟨w, rfl⟩ : ∃ w', w' = wr := ⟨_, rfl⟩
    by_cases hlt : k < RN
    · obtain ⟨jj, hjj⟩ : ∃ jj, jj = ordN true RN k := ⟨_, rfl⟩
      obtain rfl : z = (jj : Int) := by have := HZ.out; rw [hjj]; unfold ordN; simp; omega
      have y1 : decide ((jj : Int) ≥ 0) = true := decide_eq_true (by omega)
      have y2 : decide ((0 : Int) ≤ (jj : Int)) = true := decide_eq_true (by omega)
      have y3 : (0 : Int) ≤ (jj : Int) := by omega
      have y4 : decide ((jj : Int) < (RN : Int)) = true := decide_eq_true (by rw [hjj]; unfold ordN; split <;> omega)
      have y5 : (jj : Int) < (RN : Int) := of_decide_eq_true y4
      have TW := HTW.out k
      have ST := HST.out k
      have l1 := TW.l
      have l2 := TW.r
      rw [← hjj] at ST
      have l4 : (stepL F H NN jj (RT k).2).length = n := (stepL_length F H NN jj _).trans l2
      have l3 : (xorL (RT k).1 (stepL F H NN jj (RT k).2)).length = n := by rw [xorL_length, l1, l4, Nat.min_self]
      have XC1 := Lib.hid fun (w : World) (pa pb : Option Addr) (ca cb : Nat) ha hb => XC.out w (RT k).1 (stepL F H NN jj (RT k).2) pa pb ca cb l1 l4 ha hb
      have SC1 := Lib.hid fun (w : World) (px : Option Addr) (cx : Nat) hx hr => SC.out w (RT k).2 px cx jj hx l2 (by omega) hr
      have STH := Lib.hid ST
      clear ST l4 hjj TW
      generalize hX : xorL (RT k).1 (stepL F H NN jj (RT k).2) = X at *
      generalize stepL F H NN jj (RT k).2 = SV at *
      have HK1 := Lib.hid (show ∀ w p, RdB w p (RT k).2 → RdB w p (RT (k + 1)).1 from fun w p h => by rw [STH.out]; exact h)
      have HK2 := Lib.hid (show ∀ w p, RdB w p X → RdB w p (RT (k + 1)).2 from fun w p h => by rw [STH.out]; exact h)
      clear STH
      generalize (RT k).1 = LL at *
      generalize (RT k).2 = RR at *
      clear hX
      go_wp2_with fail
      have hx0 := hm.x
      have c1 := fun wx (hwx : Ext w wx) => SC1.out wx pr cr (hx0.trans hwx) (HRR.out.ext hwx)
      have c2 := fun wx (hwx : Ext w wx) p' c' hr' => XC1.out wx pl p' cl c' (HRL.out.ext hwx) hr'
      have c3 := fun wx (hwx : Ext w wx) => NC.out wx
      refine region_new 10 (fun w' => Ext _ w') 52 (by kernel_rfl) (by kernel_rfl) rfl (fun _ _ h k => h.trans k) (drew_ext _) ?_
      simp only [tSC, List.take_zero, dSC, List.drop_zero, List.map_cons, List.map_nil]
      repeat (first
          | (apply walk_some (BytesS SV) 44 (BytesS.stable _) rfl rfl rfl rfl
             · (intro wx hwx; go_simp; with_reducible exact gives_callR (c1 wx hwx)))
          | (apply walk_from_some (T := [(44, BytesS SV)]) (BytesS X) 45 (BytesS.stable _) rfl rfl rfl
             · (intro wx hwx; simp only [withS]; (rintro x_ ⟨p', c', rfl, hlc, hr'⟩); refine ⟨rfl, ?_⟩; go_simp; with_reducible exact gives_callR (c2 wx hwx p' c' hr')))
          | (apply walk_is rfl rfl rfl
             · (intro wx hwx; first | ((with_reducible show gives _ _ _ (Sem.run _ (execOp _ (Oper.mk _ (Op.load _ _) _ _ _ _)) _)); first | ((with_reducible apply gq_ldv (hm.ext hwx)); infer_instance; (exact rfl); (focus ((repeat (first | exact .hd | assumption | apply Has.tl | apply Has.app)); done)); (focus (first | omega | (simp; omega) | (refine Nat.lt_of_lt_of_le (BitVec.isLt _) ?_; first | omega | (simp; done) | (simp; omega) | fail) | fail))) | ((with_reducible apply gq_ldW (hm.ext hwx)); infer_instance; (exact rfl); (focus ((repeat (first | exact .hd | assumption | apply Has.tl | apply Has.app)); done)); (focus (first | rfl | omega | (simp; done) | (simp; omega) | fail))) | ((with_reducible apply gq_ld1 (hm.ext hwx)); infer_instance; (exact rfl); (focus ((repeat (first | exact .hd | assumption | apply Has.tl | apply Has.app)); done)); (exact rfl)) | fail) | (go_simp; (try go_bits); first | exact gives_same | exact gives_skip | with_reducible exact gives_call (c3 wx hwx)))
             · (simp only [Act.put, sIB, sCS, sCZ]; rfl))
          | (apply walk_not rfl rfl rfl
             · (simp only [Act.put, sIB, sCS, sCZ]; rfl)))
      intro wz hwz
      simp only [zCC, zNR]
      repeat rw [fin_is]
      rw [fin_cons]; intro x44 hx44
      repeat rw [fin_is]
      rw [fin_cons]; intro x45 hx45
      repeat rw [fin_is]
      rw [fin_nil]; intro hap
      simp only [Act.put, sIB, sCS, sCZ] at hap ⊢
      obtain ⟨px, cx, rfl, hcx, hrx⟩ := hx45
      rw [l3] at hcx
      have EX := Lib.hid (show Value.slice px X.length cx = .slice px n cx by rw [l3])
      rw [EX.out]
      have HRX := Lib.hid hrx
      clear hx44 hrx hap c1 c2 c3 hx0
      replace hm := hm.ext hwz
      go_wp2_with fail
      go_roundw
      case rel => exact ⟨k + 1, (jj : Int) - 1, pr, px, cr, cx, hlt, by have := HZ.out; omega, by go_num, rfl, rfl, hcr, hcx, HK1.out _ _ (HRR.out.ext hwz), HK2.out _ _ HRX.out, hm⟩
      case measure => simp [intOf] <;> omega
    · obtain rfl : k = RN := by omega
      obtain rfl : z = (-1 : Int) := by have := HZ.out; omega
      have FIT0 := Lib.hid (show (0 + n) * (1 + 1) ≤ 140737488355328 by omega)
      have FIT := Lib.hid (show (n + n) * (1 + 1) ≤ 140737488355328 by omega)
      have l1 := (HTW.out k).l
      have l2 := (HTW.out k).r
      have LRR := Lib.hid (show ((RT k).2.map v8).length = n * 1 by rw [List.length_map, l2, Nat.mul_one])
      have LLL := Lib.hid (show ((RT k).1.map v8).length = n * 1 by rw [List.length_map, l1, Nat.mul_one])
      generalize (RT k).1 = LL at *
      generalize (RT k).2 = RR at *
      have hx1 := hm.x
      clear hm
      have hm := Own.start w
      go_wp2_with (first | ((with_reducible apply wq_bs0 bs0_b hm); exact rfl; clear hm; intro gz w hm) | ((with_reducible show wpList _ _ _ (Oper.mk _ (Op.call _) _ _ _ _ :: _) _ _); refine wplO_app (M := [⟨gz, 5, []⟩]) (R := []) (ds := RR.map v8) hm (slo_room0 gz _ 1) rfl rfl rfl rfl Tryz.underlying22 LRR.out (cellsB (HRR.out.ext hm.x)) (one_map _) FIT0.out ?_; clear hm; intro v1 w M1 hm hs1; obtain ⟨p_v1, c_v1, rfl⟩ := hs1.form; simp only [Nat.zero_add, List.nil_append] at hs1 ⊢) | ((with_reducible show wpList _ _ _ (Oper.mk _ (Op.call _) _ _ _ _ :: _) _ _); refine wplO_app (M := M1) (R := []) (ds := LL.map v8) hm hs1 rfl rfl rfl rfl Tryz.underlying22 LLL.out (cellsB (HRL.out.ext hm.x)) (one_map _) FIT.out ?_; clear hm; intro v2 w M2 hm hs2; obtain ⟨p_v2, c_v2, rfl⟩ := hs2.form) | fail)
      rw [← List.map_append] at hs2
      have hr2 := slo_bytes hs2 hm
      refine (JC.out _ _ _ _ hr2).mono ?_
      rintro e w' ⟨x, rfl, hbs, hx_⟩
      have HBS := Lib.hid hbs
      have hx2 := hx1.trans (hm.x.trans hx_)
      clear hbs hs1 hs2 hr2 hx_
      go_wp2_with fail
      go_ret
      exact ⟨x, rfl, HBS.out, hx2⟩

end Go.Proofs.YtaijfigohlkccaaGreatDoor
