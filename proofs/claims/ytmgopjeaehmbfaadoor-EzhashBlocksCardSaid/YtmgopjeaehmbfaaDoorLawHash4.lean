/-
  Layer 16: the statement on a string's whole blocks and its rest. Conditions: the program's variables lie as its text lays them.
-/
import Derived.Test.YtmgopjeaehmbfaaDoorLawHash1
import Derived.Test.YtmgopjeaehmbfaaDoorHashq
namespace Go.Proofs.YtmgopjeaehmbfaaDoor
open Go Go.RowKit
set_option maxRecDepth 100000
set_option linter.unusedVariables false
set_option linter.unusedSimpArgs false

set_option maxHeartbeats 16000000 in
theorem blocks16_walk (key : List Byte) (p : Option Addr) (c : Nat) (b : List Byte) (q : Option Addr) (d : Nat) (J : BitVec 16) (w0 : World) (hk : RdB w0 p key) (hkc : key.length ≤ c) (hkm : key.length ≤ maxLen) (hb : RdB w0 q b) (hbc : b.length ≤ d) (hbm : b.length ≤ maxLen) (hc : Coef w0 ∧ CoefB w0) :
    Calls Tryd.prog 5 #[.slice p key.length c, .slice q b.length d, v16 J] w0 fun e w' => e = .returned (.bool true) ∧ Ext w0 w' := by
  have hm := Own.start w0
  have HC := Lib.hid hc.1
  have HB := Lib.hid hc.2
  have HK := Lib.hid hk
  have HQ := Lib.hid hb
  have CR := Lib.hid fun w => right15_any key p c w
  have KO := Lib.hid fun (h : rightL key = true) (w : World) (h1 : RdB w p key) (h2 : Coef w) (h3 : CoefB w) => keys16_ok key p c w h hkc h1 h2 h3
  have AW := Lib.hid fun (w : World) (h : Ext w0 w) => awake16 w ⟨hc.1.ext h, hc.2.ext h⟩
  have OKK := Lib.hid (keyOf_ok key)
  clear hc hk hb
  generalize keyOf key = K at *
  have hj : J.toNat < 65536 := J.isLt
  unfold v16
  generalize J.toNat = j at *
  by_cases hR : rightL key = true
  · rw [hR] at CR
    by_cases h2 : 200 < b.length
    · have a1 : decide ((200 : Int) < (b.length : Int)) = true := decide_eq_true (by omega)
      have a2 : (200 : Int) < (b.length : Int) := by omega
      go_enter Tryd.func5, Tryd.ntmps5
      go_wp2_with (first | (go_at_call 19; (with_reducible refine (CR.out _).mono ?_); rintro e_ w_ ⟨rfl, rfl⟩) | fail)
      go_ret
      exact ⟨rfl, hm.x⟩
    · have a1 : decide ((200 : Int) < (b.length : Int)) = false := decide_eq_false (by omega)
      have a2 : ¬ (200 : Int) < (b.length : Int) := by omega
      have hb2 : b.length ≤ 70368744177000 := by omega
      have PE := Lib.hid fun (wx : World) (g : Nat) (h : KeyR wx g K) (m : Int) (x : List Byte) (h1 : x.length = 16) (h2 : m ≤ 9223372036854775807) => h.e (j : Int) m x h1 (by omega) h2
      have HF := Lib.hid (eZ_length K (j : Int))
      have PK := Lib.hid fun (wx : World) (g : Nat) (h : KeyR wx g K) (h' : RdB wx q b) => hpart_any (.pointer (some ⟨g, 0, none⟩)) (eZ K (j : Int)) (eZ_length K _) (j : Int) b q d wx h' hbc hb2 (fun wy hy m x h1 h2 => (h.ext hy).e _ m x h1 (by omega) h2)
      have PD := Lib.hid fun (wx : World) (g : Nat) (h : KeyR wx g K) (l : List Byte) (q' : Option Addr) (d' : Nat) (h' : RdB wx q' l) (h1 : l.length ≤ d') (h2 : l.length ≤ 70368744177000) => hpart_any (.pointer (some ⟨g, 0, none⟩)) (eZ K (j : Int)) (eZ_length K _) (j : Int) l q' d' wx h' h1 h2 (fun wy hy m x h1 h2 => (h.ext hy).e _ m x h1 (by omega) h2)
      generalize eZ K (j : Int) = F at *
      obtain ⟨W, hW⟩ : ∃ W : Nat, b.length / 16 = W := ⟨_, rfl⟩
      obtain ⟨r, hr⟩ : ∃ r : Nat, b.length % 16 = r := ⟨_, rfl⟩
      have x1 : (b.length : Int) % 16 = (r : Int) := by omega
      have x2 : (b.length : Int).tmod 16 = (r : Int) := by rw [Int.tmod_eq_emod_of_nonneg (by omega)]; exact x1
      have x3 : (b.length : Int) / 16 = (W : Int) := by omega
      have x4 : (b.length : Int).tdiv 16 = (W : Int) := by rw [Int.tdiv_eq_ediv_of_nonneg (by omega)]; exact x3
      have hbW : b.length = 16 * W + r := by omega
      have hr16 : r < 16 := by omega
      have HBW := Lib.hid hbW
      have lG := partG_length F b
      have E0 := Lib.hid (partF_length F b)
      have EG1 : Hid (¬ b.length = 0 → r = 0 → partF F b W = partG F b) := Lib.hid fun h1 h2 => by rw [partG, if_neg (by omega), hW]
      have EG2 : Hid (b.length = 0 ∨ ¬ r = 0 → bothL (partF F b W) (partG F (b.drop (16 * W))) = partG F b) := Lib.hid fun h => by
        have := partG_rest F HF.out b (by omega)
        rwa [hW] at this
      have lPD := partG_length F (b.drop (16 * W))
      have PLL := Lib.hid fun wx => plus16_any (partF F b W) (partG F (b.drop (16 * W))) (E0.out W) lPD wx
      have lDR0 : (b.drop (16 * W)).length = r := by rw [List.length_drop]; omega
      have HRX := Lib.hid fun (wx : World) (h : Ext w0 wx) => HQ.out.ext h
      have lz : (zer (n := 8) 16).length = 16 := zer_length
      have EZ : Hid ((zer (n := 8) 16) = partF F b 0) := Lib.hid rfl
      clear hW hr hbW
      go_enter Tryd.func5, Tryd.ntmps5
      go_wp2_with (first | (go_at_call 19; (with_reducible refine (CR.out _).mono ?_); rintro e_ w_ ⟨rfl, rfl⟩) | fail)
      refine (KO.out hR _ (HK.out.ext hm.x) (HC.out.ext hm.x) (HB.out.ext hm.x)).mono ?_
      rintro e w ⟨g, gt, gb, rfl, hg_, hgt_, hne_, hrk_, hrt_, hx_⟩
      replace hm := hm.push2 hx_ hgt_ hrt_ hg_ hrk_ hne_
      clear hx_ hg_ hgt_ hne_ hrk_ hrt_
      go_wp2_with (first | ((first | ((with_reducible show wpList _ _ _ (Oper.mk _ (Op.alloc _) _ _ _ _ :: _) _ _); first | ((with_reducible apply wq_new hm); (exact rfl); infer_instance) | fail)); clear hm; (first | (have hx_ := g1; clear hx_; (first | (have hx_ := g2; clear hx_; (first | (have hx_ := g3; clear hx_; (first | (have hx_ := g4; clear hx_; (first | (have hx_ := g5; clear hx_; (first | (have hx_ := g6; clear hx_; (first | (have hx_ := g7; clear hx_; (first | (have hx_ := g8; clear hx_; (first | (have hx_ := g9; clear hx_; intro g10) | intro g9)) | intro g8)) | intro g7)) | intro g6)) | intro g5)) | intro g4)) | intro g3)) | intro g2)) | intro g1); intro w hm) | fail)
      go_loopw [11] (fun i wr => ∃ k : Nat, k ≤ W ∧ i = .int .i64 ((k : Int) + 1) ∧ Own w0 wr [⟨g1, 27, (partF F b k).map v8⟩, ⟨g, 96, kcells gt K⟩, ⟨gt, 122, tcells gb mixT unmixT⟩]) (fun i _ => W + 1 - (intOf i).toNat)
      case atStart => exact ⟨0, by omega, rfl, by rw [← EZ.out]; exact hm⟩
      case round =>
        obtain ⟨k, hk, rfl, hm⟩ := hrel
        have hbl := HBW.out
        have lk := E0.out k
        by_cases hlt : k < W
        · have d1 : decide ((k : Int) + 1 ≤ (W : Int)) = true := decide_eq_true (by omega)
          have d2 : (k : Int) + 1 ≤ (W : Int) := by omega
          obtain ⟨a, rfl⟩ := Option.isSome_iff_exists.1 (HQ.out.1 (by omega))
          obtain ⟨hi, hhi⟩ : ∃ hi : Nat, hi = 16 * k + 16 := ⟨_, rfl⟩
          obtain ⟨lo, hlo⟩ : ∃ lo : Nat, lo = 16 * k := ⟨_, rfl⟩
          have y1 : (16 : Int) * ((k : Int) + 1) = (hi : Int) := by omega
          have y2 : (hi : Int) - 16 = (lo : Int) := by omega
          have EX : Hid (part 16 16 (fun s => nth b (lo + s)) (nth (zer 16)) = blk (b.drop lo)) := Lib.hid (by
            refine nth_ext (by rw [part_length, blk_length]) fun i hi => ?_
            rw [part_length] at hi
            rw [blk_nth _ _ hi, nth_drop, part_all, nth_tab hi])
          have ES : Hid ((zer (n := 8) 16) = part 16 0 (fun s => nth b (lo + s)) (nth (zer 16))) := Lib.hid (part_start zer_length)
          have lB := blk_length (b.drop lo)
          have C1 := Lib.hid fun wx h => PE.out wx g h ((k : Int) + 1) (blk (b.drop lo)) lB (by omega)
          have l3 := HF.out ((k : Int) + 1) (blk (b.drop lo))
          have c2 := fun wx => plus16_any (partF F b k) (F ((k : Int) + 1) (blk (b.drop lo))) lk l3 wx
          rw [show bothL (partF F b k) (F ((k : Int) + 1) (blk (b.drop lo))) = partF F b (k + 1) by rw [partF, hlo]] at c2
          have C2 := Lib.hid c2
          have lk2 := E0.out (k + 1)
          have hlob : lo + 16 ≤ b.length := by omega
          clear c2 hhi hlo
          generalize F ((k : Int) + 1) (blk (b.drop lo)) = Y at *
          generalize blk (b.drop lo) = Z at *
          generalize hP2 : partF F b (k + 1) = P2 at *
          generalize partF F b k = P1 at *
          have HP2 := Lib.hid hP2
          clear hP2 hbl
          go_wp2_with (first | ((first | ((with_reducible show wpList _ _ _ (Oper.mk _ (Op.alloc _) _ _ _ _ :: _) _ _); first | ((with_reducible apply wq_new hm); (exact rfl); infer_instance) | fail)); clear hm; (first | (have hx_ := g1; clear hx_; (first | (have hx_ := g2; clear hx_; (first | (have hx_ := g3; clear hx_; (first | (have hx_ := g4; clear hx_; (first | (have hx_ := g5; clear hx_; (first | (have hx_ := g6; clear hx_; (first | (have hx_ := g7; clear hx_; (first | (have hx_ := g8; clear hx_; (first | (have hx_ := g9; clear hx_; intro g10) | intro g9)) | intro g8)) | intro g7)) | intro g6)) | intro g5)) | intro g4)) | intro g3)) | intro g2)) | intro g1); intro w hm) | fail)
          go_loopw [13] (fun v wr => ∃ t : Nat, t ≤ 16 ∧ v = .int .i64 t ∧ Own w0 wr [⟨g2, 27, (part 16 t (fun s => nth b (lo + s)) (nth (zer 16))).map v8⟩, ⟨g1, 27, P1.map v8⟩, ⟨g, 96, kcells gt K⟩, ⟨gt, 122, tcells gb mixT unmixT⟩]) (fun v _ => 16 - (intOf v).toNat)
          case atStart => exact ⟨0, by omega, rfl, by rw [← ES.out]; exact hm⟩
          case round =>
            obtain ⟨t, ht, rfl, hm⟩ := hrel
            by_cases htl : t < 16
            · have ht1 : decide ((t : Int) < 16) = true := decide_eq_true (by omega)
              have ht2 : (t : Int) < 16 := by omega
              obtain ⟨m, hm0⟩ : ∃ m : Nat, m = lo + t := ⟨_, rfl⟩
              have y3 : (lo : Int) + (t : Int) = (m : Int) := by omega
              have y4 : (m : Int) < (b.length : Int) := by omega
              have EJ : Hid (setN (part 16 t (fun s => nth b (lo + s)) (nth (zer 16))) t (nth b m) = part 16 (t + 1) (fun s => nth b (lo + s)) (nth (zer 16))) := Lib.hid (by
                rw [hm0]; exact part_set (f := fun s => nth b (lo + s)) htl)
              have lJ : (part 16 t (fun s => nth b (lo + s)) (nth (zer (n := 8) 16))).length = 16 := part_length
              have hmb : m < b.length := by omega
              have y5 : (m : Int) ≤ 9223372036854775807 := by omega
              clear hm0
              generalize part 16 t (fun s => nth b (lo + s)) (nth (zer 16)) = C at *
              go_wp2_with (first | ((with_reducible apply wq_rdb (k := m) (HQ.out.ext hm.x)); exact rfl; infer_instance; exact rfl; exact hmb) | ((((with_reducible show wpList _ _ _ (Oper.mk _ (Op.store _ _ _) _ _ _ _ :: _) _ _); first | ((with_reducible apply wq_stv hm); (exact rfl); infer_instance; (exact rfl); (focus ((repeat (first | exact .hd | assumption | apply Swap.tl)); done)); infer_instance; (exact rfl); (focus (first | omega | (simp; omega) | (refine Nat.lt_of_lt_of_le (BitVec.isLt _) ?_; first | omega | (simp; done) | (simp; omega) | fail) | fail))) | fail)); clear hm; intro w hm) | fail)
              go_roundw
              case rel =>
                rw [EJ.out] at hm
                exact ⟨t + 1, by omega, by go_num, hm⟩
              case measure => simp [intOf] <;> omega
            · obtain rfl : t = 16 := by omega
              have ht1 : decide (((16 : Nat) : Int) < 16) = false := decide_eq_false (by omega)
              rw [EX.out] at hm
              go_wp2_with fail
              have kr := fun wx (hwx : Ext _ wx) => KeyR.own (g := g) (gt := gt) (gb := gb) OKK.out (hm.ext hwx) (by repeat (first | exact Has.hd | assumption | apply Has.tl)) (by repeat (first | exact Has.hd | assumption | apply Has.tl))
              refine region_at 8 (fun w' => Ext _ w') 87 (by kernel_rfl) (by kernel_rfl) rfl (fun _ _ h k => h.trans k) (drew_ext _) ?_
              simp only [List.take_succ_cons, List.take_zero, List.drop_succ_cons, List.drop_zero, List.map_cons, List.map_nil]
              repeat (first
                  | (apply walk_is rfl rfl rfl
                     · (intro wx hwx; first | ((with_reducible show gives _ _ _ (Sem.run _ (execOp _ (Oper.mk _ (Op.load _ _) _ _ _ _)) _)); first | ((with_reducible apply gq_ldv (hm.ext hwx)); infer_instance; (exact rfl); (focus ((repeat (first | exact .hd | assumption | apply Has.tl)); done)); (focus (first | omega | (simp; omega) | (refine Nat.lt_of_lt_of_le (BitVec.isLt _) ?_; first | omega | (simp; done) | (simp; omega) | fail) | fail))) | ((with_reducible apply gq_ldW (hm.ext hwx)); infer_instance; (exact rfl); (focus ((repeat (first | exact .hd | assumption | apply Has.tl)); done)); (focus (first | rfl | omega | (simp; done) | (simp; omega) | fail))) | ((with_reducible apply gq_ld1 (hm.ext hwx)); infer_instance; (exact rfl); (focus ((repeat (first | exact .hd | assumption | apply Has.tl)); done)); (exact rfl)) | fail) | (go_simp; (try go_bits); first | exact gives_same | exact gives_skip | with_reducible exact gives_call (C1.out wx (kr wx hwx)) | with_reducible exact gives_call (C2.out wx)))
                     · (simp only [Act.put, List.setIfInBounds_toArray, List.set_cons_succ, List.set_cons_zero]; rfl))
                  | (apply walk_not rfl rfl rfl
                     · (simp only [Act.put, List.setIfInBounds_toArray, List.set_cons_succ, List.set_cons_zero]; rfl)))
              intro wz hwz
              simp only [List.zip_cons_cons, List.zip_nil_right]
              repeat (first | rw [fin_is] | (rw [fin_cons]; intro _ _))
              rw [fin_nil]
              try (replace hm := hm.ext hwz)
              simp only [Act.put, List.setIfInBounds_toArray, List.set_cons_succ, List.set_cons_zero]
              clear kr
              go_wp2_with (first | ((((with_reducible show wpList _ _ _ (Oper.mk _ (Op.store _ _ _) _ _ _ _ :: _) _ _); first | ((with_reducible apply wq_stW hm); (exact rfl); infer_instance; (exact rfl); (exact rfl); (focus ((repeat (first | exact .hd | assumption | apply Swap.tl)); done)); (focus (first | rfl | omega | (simp; done) | (simp; omega) | fail)); (focus (first | rfl | omega | (simp; done) | (simp; omega) | fail)); (focus (first | exact one_map _ | (simp [one8, one32, one64]; done) | fail))) | fail)); clear hm; intro w hm) | fail)
              go_roundw
              case rel => exact ⟨k + 1, by omega, by go_num, by rw [HP2.out]; exact hm.drop⟩
              case measure => simp [intOf] <;> omega
        · obtain rfl : k = W := by omega
          have d1 : decide ((k : Int) + 1 ≤ (k : Int)) = false := decide_eq_false (by omega)
          have d2 : ¬ (k : Int) + 1 ≤ (k : Int) := by omega
          by_cases h0 : b.length = 0
          · have eG := EG2.out (.inl h0)
            rw [eG] at PLL
            obtain rfl : k = 0 := by omega
            obtain rfl : r = 0 := by omega
            have z1 : ((0 : Int) != 0) = false := rfl
            have z2 : ((0 : Int) == 0) = true := rfl
            have hb0 : b = [] := List.eq_nil_of_length_eq_zero h0
            have PD0 := Lib.hid fun (wx : World) (q' : Option Addr) (d' : Nat) (h : KeyR wx g K) => PD.out wx g h (b.drop (16 * 0)) q' d' (by rw [hb0]; exact RdB.nil _ _) (by rw [hb0]; exact Nat.zero_le _) (by rw [hb0]; simp)
            rw [lDR0] at PD0
            have PK0 := PK
            rw [h0] at PK0
            generalize hPD : partG F (b.drop (16 * 0)) = PDR at *
            generalize partG F b = D at *
            generalize partF F b 0 = P1 at *
            rw [h0]
            clear x1 x2 x3 x4 hbl hPD eG EG1 EG2 lDR0 hb0 h0 hbm hb2 hbc a1 a2 PK PD
            cases q with
            | none =>
              go_wp2_with fail
              have kr := fun wx (hwx : Ext _ wx) => KeyR.own (g := g) (gt := gt) (gb := gb) OKK.out (hm.ext hwx) (by repeat (first | exact Has.hd | assumption | apply Has.tl)) (by repeat (first | exact Has.hd | assumption | apply Has.tl))
              have hx0 := hm.x
              refine region_at 10 (fun w' => Ext _ w') 87 (by kernel_rfl) (by kernel_rfl) rfl (fun _ _ h k => h.trans k) (drew_ext _) ?_
              simp only [List.take_succ_cons, List.take_zero, List.drop_succ_cons, List.drop_zero, List.map_cons, List.map_nil]
              repeat (first
                  | (apply walk_is rfl rfl rfl
                     · (intro wx hwx; first | ((with_reducible show gives _ _ _ (Sem.run _ (execOp _ (Oper.mk _ (Op.load _ _) _ _ _ _)) _)); first | ((with_reducible apply gq_ldv (hm.ext hwx)); infer_instance; (exact rfl); (focus ((repeat (first | exact .hd | assumption | apply Has.tl)); done)); (focus (first | omega | (simp; omega) | (refine Nat.lt_of_lt_of_le (BitVec.isLt _) ?_; first | omega | (simp; done) | (simp; omega) | fail) | fail))) | ((with_reducible apply gq_ldW (hm.ext hwx)); infer_instance; (exact rfl); (focus ((repeat (first | exact .hd | assumption | apply Has.tl)); done)); (focus (first | rfl | omega | (simp; done) | (simp; omega) | fail))) | ((with_reducible apply gq_ld1 (hm.ext hwx)); infer_instance; (exact rfl); (focus ((repeat (first | exact .hd | assumption | apply Has.tl)); done)); (exact rfl)) | fail) | (go_simp; (try go_bits); first | exact gives_same | exact gives_skip | with_reducible exact gives_call (PD0.out wx _ _ (kr wx hwx)) | with_reducible exact gives_call (PLL.out wx)))
                     · (simp only [Act.put, List.setIfInBounds_toArray, List.set_cons_succ, List.set_cons_zero]; rfl))
                  | (apply walk_not rfl rfl rfl
                     · (simp only [Act.put, List.setIfInBounds_toArray, List.set_cons_succ, List.set_cons_zero]; rfl)))
              intro wz hwz
              simp only [List.zip_cons_cons, List.zip_nil_right]
              repeat (first | rw [fin_is] | (rw [fin_cons]; intro _ _))
              rw [fin_nil]
              try (replace hm := hm.ext hwz)
              simp only [Act.put, List.setIfInBounds_toArray, List.set_cons_succ, List.set_cons_zero]
              clear kr hx0
              go_wp2_with (first | ((((with_reducible show wpList _ _ _ (Oper.mk _ (Op.store _ _ _) _ _ _ _ :: _) _ _); first | ((with_reducible apply wq_stW hm); (exact rfl); infer_instance; (exact rfl); (exact rfl); (focus ((repeat (first | exact .hd | assumption | apply Swap.tl)); done)); (focus (first | rfl | omega | (simp; done) | (simp; omega) | fail)); (focus (first | rfl | omega | (simp; done) | (simp; omega) | fail)); (focus (first | exact one_map _ | (simp [one8, one32, one64]; done) | fail))) | fail)); clear hm; intro w hm) | fail)
              have kr := fun wx (hwx : Ext _ wx) => KeyR.own (g := g) (gt := gt) (gb := gb) OKK.out (hm.ext hwx) (by repeat (first | exact Has.hd | assumption | apply Has.tl)) (by repeat (first | exact Has.hd | assumption | apply Has.tl))
              have hx0 := hm.x
              refine region_at 10 (fun w' => Ext _ w') 87 (by kernel_rfl) (by kernel_rfl) rfl (fun _ _ h k => h.trans k) (drew_ext _) ?_
              simp only [List.take_succ_cons, List.take_zero, List.drop_succ_cons, List.drop_zero, List.map_cons, List.map_nil]
              repeat (first
                  | (apply walk_is rfl rfl rfl
                     · (intro wx hwx; first | ((with_reducible show gives _ _ _ (Sem.run _ (execOp _ (Oper.mk _ (Op.load _ _) _ _ _ _)) _)); first | ((with_reducible apply gq_ldv (hm.ext hwx)); infer_instance; (exact rfl); (focus ((repeat (first | exact .hd | assumption | apply Has.tl)); done)); (focus (first | omega | (simp; omega) | (refine Nat.lt_of_lt_of_le (BitVec.isLt _) ?_; first | omega | (simp; done) | (simp; omega) | fail) | fail))) | ((with_reducible apply gq_ldW (hm.ext hwx)); infer_instance; (exact rfl); (focus ((repeat (first | exact .hd | assumption | apply Has.tl)); done)); (focus (first | rfl | omega | (simp; done) | (simp; omega) | fail))) | ((with_reducible apply gq_ld1 (hm.ext hwx)); infer_instance; (exact rfl); (focus ((repeat (first | exact .hd | assumption | apply Has.tl)); done)); (exact rfl)) | fail) | (go_simp; (try go_bits); first | exact gives_same | exact gives_skip | with_reducible exact gives_call (PK0.out wx g (kr wx hwx) (HRX.out wx (hx0.trans hwx))) | with_reducible exact gives_call (AW.out wx (hx0.trans hwx))))
                     · (simp only [Act.put, List.setIfInBounds_toArray, List.set_cons_succ, List.set_cons_zero]; rfl))
                  | (apply walk_not rfl rfl rfl
                     · (simp only [Act.put, List.setIfInBounds_toArray, List.set_cons_succ, List.set_cons_zero]; rfl)))
              intro wz hwz
              simp only [List.zip_cons_cons, List.zip_nil_right]
              repeat (first | rw [fin_is] | (rw [fin_cons]; intro _ _))
              rw [fin_nil]
              try (replace hm := hm.ext hwz)
              simp only [Act.put, List.setIfInBounds_toArray, List.set_cons_succ, List.set_cons_zero]
              go_wp2_with fail
              go_ret
              exact ⟨rfl, hm.x⟩
            | some a =>
              by_cases hc0 : d = 0
              · subst hc0
                go_wp2_with fail
                have kr := fun wx (hwx : Ext _ wx) => KeyR.own (g := g) (gt := gt) (gb := gb) OKK.out (hm.ext hwx) (by repeat (first | exact Has.hd | assumption | apply Has.tl)) (by repeat (first | exact Has.hd | assumption | apply Has.tl))
                have hx0 := hm.x
                refine region_at 10 (fun w' => Ext _ w') 87 (by kernel_rfl) (by kernel_rfl) rfl (fun _ _ h k => h.trans k) (drew_ext _) ?_
                simp only [List.take_succ_cons, List.take_zero, List.drop_succ_cons, List.drop_zero, List.map_cons, List.map_nil]
                repeat (first
                    | (apply walk_is rfl rfl rfl
                       · (intro wx hwx; first | ((with_reducible show gives _ _ _ (Sem.run _ (execOp _ (Oper.mk _ (Op.load _ _) _ _ _ _)) _)); first | ((with_reducible apply gq_ldv (hm.ext hwx)); infer_instance; (exact rfl); (focus ((repeat (first | exact .hd | assumption | apply Has.tl)); done)); (focus (first | omega | (simp; omega) | (refine Nat.lt_of_lt_of_le (BitVec.isLt _) ?_; first | omega | (simp; done) | (simp; omega) | fail) | fail))) | ((with_reducible apply gq_ldW (hm.ext hwx)); infer_instance; (exact rfl); (focus ((repeat (first | exact .hd | assumption | apply Has.tl)); done)); (focus (first | rfl | omega | (simp; done) | (simp; omega) | fail))) | ((with_reducible apply gq_ld1 (hm.ext hwx)); infer_instance; (exact rfl); (focus ((repeat (first | exact .hd | assumption | apply Has.tl)); done)); (exact rfl)) | fail) | (go_simp; (try go_bits); first | exact gives_same | exact gives_skip | with_reducible exact gives_call (PD0.out wx _ _ (kr wx hwx)) | with_reducible exact gives_call (PLL.out wx)))
                       · (simp only [Act.put, List.setIfInBounds_toArray, List.set_cons_succ, List.set_cons_zero]; rfl))
                    | (apply walk_not rfl rfl rfl
                       · (simp only [Act.put, List.setIfInBounds_toArray, List.set_cons_succ, List.set_cons_zero]; rfl)))
                intro wz hwz
                simp only [List.zip_cons_cons, List.zip_nil_right]
                repeat (first | rw [fin_is] | (rw [fin_cons]; intro _ _))
                rw [fin_nil]
                try (replace hm := hm.ext hwz)
                simp only [Act.put, List.setIfInBounds_toArray, List.set_cons_succ, List.set_cons_zero]
                clear kr hx0
                go_wp2_with (first | ((((with_reducible show wpList _ _ _ (Oper.mk _ (Op.store _ _ _) _ _ _ _ :: _) _ _); first | ((with_reducible apply wq_stW hm); (exact rfl); infer_instance; (exact rfl); (exact rfl); (focus ((repeat (first | exact .hd | assumption | apply Swap.tl)); done)); (focus (first | rfl | omega | (simp; done) | (simp; omega) | fail)); (focus (first | rfl | omega | (simp; done) | (simp; omega) | fail)); (focus (first | exact one_map _ | (simp [one8, one32, one64]; done) | fail))) | fail)); clear hm; intro w hm) | fail)
                have kr := fun wx (hwx : Ext _ wx) => KeyR.own (g := g) (gt := gt) (gb := gb) OKK.out (hm.ext hwx) (by repeat (first | exact Has.hd | assumption | apply Has.tl)) (by repeat (first | exact Has.hd | assumption | apply Has.tl))
                have hx0 := hm.x
                refine region_at 10 (fun w' => Ext _ w') 87 (by kernel_rfl) (by kernel_rfl) rfl (fun _ _ h k => h.trans k) (drew_ext _) ?_
                simp only [List.take_succ_cons, List.take_zero, List.drop_succ_cons, List.drop_zero, List.map_cons, List.map_nil]
                repeat (first
                    | (apply walk_is rfl rfl rfl
                       · (intro wx hwx; first | ((with_reducible show gives _ _ _ (Sem.run _ (execOp _ (Oper.mk _ (Op.load _ _) _ _ _ _)) _)); first | ((with_reducible apply gq_ldv (hm.ext hwx)); infer_instance; (exact rfl); (focus ((repeat (first | exact .hd | assumption | apply Has.tl)); done)); (focus (first | omega | (simp; omega) | (refine Nat.lt_of_lt_of_le (BitVec.isLt _) ?_; first | omega | (simp; done) | (simp; omega) | fail) | fail))) | ((with_reducible apply gq_ldW (hm.ext hwx)); infer_instance; (exact rfl); (focus ((repeat (first | exact .hd | assumption | apply Has.tl)); done)); (focus (first | rfl | omega | (simp; done) | (simp; omega) | fail))) | ((with_reducible apply gq_ld1 (hm.ext hwx)); infer_instance; (exact rfl); (focus ((repeat (first | exact .hd | assumption | apply Has.tl)); done)); (exact rfl)) | fail) | (go_simp; (try go_bits); first | exact gives_same | exact gives_skip | with_reducible exact gives_call (PK0.out wx g (kr wx hwx) (HRX.out wx (hx0.trans hwx))) | with_reducible exact gives_call (AW.out wx (hx0.trans hwx))))
                       · (simp only [Act.put, List.setIfInBounds_toArray, List.set_cons_succ, List.set_cons_zero]; rfl))
                    | (apply walk_not rfl rfl rfl
                       · (simp only [Act.put, List.setIfInBounds_toArray, List.set_cons_succ, List.set_cons_zero]; rfl)))
                intro wz hwz
                simp only [List.zip_cons_cons, List.zip_nil_right]
                repeat (first | rw [fin_is] | (rw [fin_cons]; intro _ _))
                rw [fin_nil]
                try (replace hm := hm.ext hwz)
                simp only [Act.put, List.setIfInBounds_toArray, List.set_cons_succ, List.set_cons_zero]
                go_wp2_with fail
                go_ret
                exact ⟨rfl, hm.x⟩
              · have hc1 : ¬ (d : Int) = 0 := by omega
                go_wp2_with fail
                have kr := fun wx (hwx : Ext _ wx) => KeyR.own (g := g) (gt := gt) (gb := gb) OKK.out (hm.ext hwx) (by repeat (first | exact Has.hd | assumption | apply Has.tl)) (by repeat (first | exact Has.hd | assumption | apply Has.tl))
                have hx0 := hm.x
                refine region_at 10 (fun w' => Ext _ w') 87 (by kernel_rfl) (by kernel_rfl) rfl (fun _ _ h k => h.trans k) (drew_ext _) ?_
                simp only [List.take_succ_cons, List.take_zero, List.drop_succ_cons, List.drop_zero, List.map_cons, List.map_nil]
                repeat (first
                    | (apply walk_is rfl rfl rfl
                       · (intro wx hwx; first | ((with_reducible show gives _ _ _ (Sem.run _ (execOp _ (Oper.mk _ (Op.load _ _) _ _ _ _)) _)); first | ((with_reducible apply gq_ldv (hm.ext hwx)); infer_instance; (exact rfl); (focus ((repeat (first | exact .hd | assumption | apply Has.tl)); done)); (focus (first | omega | (simp; omega) | (refine Nat.lt_of_lt_of_le (BitVec.isLt _) ?_; first | omega | (simp; done) | (simp; omega) | fail) | fail))) | ((with_reducible apply gq_ldW (hm.ext hwx)); infer_instance; (exact rfl); (focus ((repeat (first | exact .hd | assumption | apply Has.tl)); done)); (focus (first | rfl | omega | (simp; done) | (simp; omega) | fail))) | ((with_reducible apply gq_ld1 (hm.ext hwx)); infer_instance; (exact rfl); (focus ((repeat (first | exact .hd | assumption | apply Has.tl)); done)); (exact rfl)) | fail) | (go_simp; (try go_bits); first | exact gives_same | exact gives_skip | with_reducible exact gives_call (PD0.out wx _ _ (kr wx hwx)) | with_reducible exact gives_call (PLL.out wx)))
                       · (simp only [Act.put, List.setIfInBounds_toArray, List.set_cons_succ, List.set_cons_zero]; rfl))
                    | (apply walk_not rfl rfl rfl
                       · (simp only [Act.put, List.setIfInBounds_toArray, List.set_cons_succ, List.set_cons_zero]; rfl)))
                intro wz hwz
                simp only [List.zip_cons_cons, List.zip_nil_right]
                repeat (first | rw [fin_is] | (rw [fin_cons]; intro _ _))
                rw [fin_nil]
                try (replace hm := hm.ext hwz)
                simp only [Act.put, List.setIfInBounds_toArray, List.set_cons_succ, List.set_cons_zero]
                clear kr hx0
                go_wp2_with (first | ((((with_reducible show wpList _ _ _ (Oper.mk _ (Op.store _ _ _) _ _ _ _ :: _) _ _); first | ((with_reducible apply wq_stW hm); (exact rfl); infer_instance; (exact rfl); (exact rfl); (focus ((repeat (first | exact .hd | assumption | apply Swap.tl)); done)); (focus (first | rfl | omega | (simp; done) | (simp; omega) | fail)); (focus (first | rfl | omega | (simp; done) | (simp; omega) | fail)); (focus (first | exact one_map _ | (simp [one8, one32, one64]; done) | fail))) | fail)); clear hm; intro w hm) | fail)
                have kr := fun wx (hwx : Ext _ wx) => KeyR.own (g := g) (gt := gt) (gb := gb) OKK.out (hm.ext hwx) (by repeat (first | exact Has.hd | assumption | apply Has.tl)) (by repeat (first | exact Has.hd | assumption | apply Has.tl))
                have hx0 := hm.x
                refine region_at 10 (fun w' => Ext _ w') 87 (by kernel_rfl) (by kernel_rfl) rfl (fun _ _ h k => h.trans k) (drew_ext _) ?_
                simp only [List.take_succ_cons, List.take_zero, List.drop_succ_cons, List.drop_zero, List.map_cons, List.map_nil]
                repeat (first
                    | (apply walk_is rfl rfl rfl
                       · (intro wx hwx; first | ((with_reducible show gives _ _ _ (Sem.run _ (execOp _ (Oper.mk _ (Op.load _ _) _ _ _ _)) _)); first | ((with_reducible apply gq_ldv (hm.ext hwx)); infer_instance; (exact rfl); (focus ((repeat (first | exact .hd | assumption | apply Has.tl)); done)); (focus (first | omega | (simp; omega) | (refine Nat.lt_of_lt_of_le (BitVec.isLt _) ?_; first | omega | (simp; done) | (simp; omega) | fail) | fail))) | ((with_reducible apply gq_ldW (hm.ext hwx)); infer_instance; (exact rfl); (focus ((repeat (first | exact .hd | assumption | apply Has.tl)); done)); (focus (first | rfl | omega | (simp; done) | (simp; omega) | fail))) | ((with_reducible apply gq_ld1 (hm.ext hwx)); infer_instance; (exact rfl); (focus ((repeat (first | exact .hd | assumption | apply Has.tl)); done)); (exact rfl)) | fail) | (go_simp; (try go_bits); first | exact gives_same | exact gives_skip | with_reducible exact gives_call (PK0.out wx g (kr wx hwx) (HRX.out wx (hx0.trans hwx))) | with_reducible exact gives_call (AW.out wx (hx0.trans hwx))))
                       · (simp only [Act.put, List.setIfInBounds_toArray, List.set_cons_succ, List.set_cons_zero]; rfl))
                    | (apply walk_not rfl rfl rfl
                       · (simp only [Act.put, List.setIfInBounds_toArray, List.set_cons_succ, List.set_cons_zero]; rfl)))
                intro wz hwz
                simp only [List.zip_cons_cons, List.zip_nil_right]
                repeat (first | rw [fin_is] | (rw [fin_cons]; intro _ _))
                rw [fin_nil]
                try (replace hm := hm.ext hwz)
                simp only [Act.put, List.setIfInBounds_toArray, List.set_cons_succ, List.set_cons_zero]
                go_wp2_with fail
                go_ret
                exact ⟨rfl, hm.x⟩
          · by_cases hr0 : r = 0
            · have eG := EG1.out h0 hr0
              rw [eG] at hm lk
              have z1 : ((r : Int) != 0) = false := by rw [hr0]; rfl
              have z2 : ((k : Int) == 0) = false := by rw [beq_eq_false_iff_ne]; omega
              clear EG2 EG1 PLL PD eG hbl
              generalize partG F b = D at *
              go_wp2_with fail
              have kr := fun wx (hwx : Ext _ wx) => KeyR.own (g := g) (gt := gt) (gb := gb) OKK.out (hm.ext hwx) (by repeat (first | exact Has.hd | assumption | apply Has.tl)) (by repeat (first | exact Has.hd | assumption | apply Has.tl))
              have hx0 := hm.x
              refine region_at 10 (fun w' => Ext _ w') 87 (by kernel_rfl) (by kernel_rfl) rfl (fun _ _ h k => h.trans k) (drew_ext _) ?_
              simp only [List.take_succ_cons, List.take_zero, List.drop_succ_cons, List.drop_zero, List.map_cons, List.map_nil]
              repeat (first
                  | (apply walk_is rfl rfl rfl
                     · (intro wx hwx; first | ((with_reducible show gives _ _ _ (Sem.run _ (execOp _ (Oper.mk _ (Op.load _ _) _ _ _ _)) _)); first | ((with_reducible apply gq_ldv (hm.ext hwx)); infer_instance; (exact rfl); (focus ((repeat (first | exact .hd | assumption | apply Has.tl)); done)); (focus (first | omega | (simp; omega) | (refine Nat.lt_of_lt_of_le (BitVec.isLt _) ?_; first | omega | (simp; done) | (simp; omega) | fail) | fail))) | ((with_reducible apply gq_ldW (hm.ext hwx)); infer_instance; (exact rfl); (focus ((repeat (first | exact .hd | assumption | apply Has.tl)); done)); (focus (first | rfl | omega | (simp; done) | (simp; omega) | fail))) | ((with_reducible apply gq_ld1 (hm.ext hwx)); infer_instance; (exact rfl); (focus ((repeat (first | exact .hd | assumption | apply Has.tl)); done)); (exact rfl)) | fail) | (go_simp; (try go_bits); first | exact gives_same | exact gives_skip | with_reducible exact gives_call (PK.out wx g (kr wx hwx) (HRX.out wx (hx0.trans hwx))) | with_reducible exact gives_call (AW.out wx (hx0.trans hwx))))
                     · (simp only [Act.put, List.setIfInBounds_toArray, List.set_cons_succ, List.set_cons_zero]; rfl))
                  | (apply walk_not rfl rfl rfl
                     · (simp only [Act.put, List.setIfInBounds_toArray, List.set_cons_succ, List.set_cons_zero]; rfl)))
              intro wz hwz
              simp only [List.zip_cons_cons, List.zip_nil_right]
              repeat (first | rw [fin_is] | (rw [fin_cons]; intro _ _))
              rw [fin_nil]
              try (replace hm := hm.ext hwz)
              simp only [Act.put, List.setIfInBounds_toArray, List.set_cons_succ, List.set_cons_zero]
              go_wp2_with fail
              go_ret
              exact ⟨rfl, hm.x⟩
            · have eG := EG2.out (.inr hr0)
              rw [eG] at PLL
              have z1 : ((r : Int) != 0) = true := by rw [bne_iff_ne]; omega
              obtain ⟨a, rfl⟩ := Option.isSome_iff_exists.1 (HQ.out.1 (by omega))
              obtain ⟨lo, hlo⟩ : ∃ lo : Nat, lo = 16 * k := ⟨_, rfl⟩
              have y1 : (16 : Int) * (k : Int) = (lo : Int) := by omega
              have y3 : (lo : Int) ≤ (b.length : Int) := by omega
              have y5 : b.length - lo = r := by omega
              have y6 : ¬ d = lo := by omega
              have y8 : lo ≤ b.length := by omega
              have PD0 := Lib.hid fun (wx : World) (d' : Nat) (hd' : r ≤ d') (h : KeyR wx g K) (h' : RdB wx (some a) b) => PD.out wx g h (b.drop (16 * k)) (some (a.add (16 * k))) d' (h'.drop (16 * k)) (by rw [lDR0]; exact hd') (by rw [lDR0]; omega)
              rw [lDR0, ← hlo] at PD0
              rw [← hlo] at PLL lPD lDR0
              have hd2 : r ≤ d - lo := by omega
              generalize partG F (b.drop lo) = PDR at *
              generalize partG F b = D at *
              generalize partF F b k = P1 at *
              clear EG1 EG2 eG PD hlo hbl
              go_wp2_with fail
              have kr := fun wx (hwx : Ext _ wx) => KeyR.own (g := g) (gt := gt) (gb := gb) OKK.out (hm.ext hwx) (by repeat (first | exact Has.hd | assumption | apply Has.tl)) (by repeat (first | exact Has.hd | assumption | apply Has.tl))
              have hx0 := hm.x
              refine region_at 10 (fun w' => Ext _ w') 87 (by kernel_rfl) (by kernel_rfl) rfl (fun _ _ h k => h.trans k) (drew_ext _) ?_
              simp only [List.take_succ_cons, List.take_zero, List.drop_succ_cons, List.drop_zero, List.map_cons, List.map_nil]
              repeat (first
                  | (apply walk_is rfl rfl rfl
                     · (intro wx hwx; first | ((with_reducible show gives _ _ _ (Sem.run _ (execOp _ (Oper.mk _ (Op.load _ _) _ _ _ _)) _)); first | ((with_reducible apply gq_ldv (hm.ext hwx)); infer_instance; (exact rfl); (focus ((repeat (first | exact .hd | assumption | apply Has.tl)); done)); (focus (first | omega | (simp; omega) | (refine Nat.lt_of_lt_of_le (BitVec.isLt _) ?_; first | omega | (simp; done) | (simp; omega) | fail) | fail))) | ((with_reducible apply gq_ldW (hm.ext hwx)); infer_instance; (exact rfl); (focus ((repeat (first | exact .hd | assumption | apply Has.tl)); done)); (focus (first | rfl | omega | (simp; done) | (simp; omega) | fail))) | ((with_reducible apply gq_ld1 (hm.ext hwx)); infer_instance; (exact rfl); (focus ((repeat (first | exact .hd | assumption | apply Has.tl)); done)); (exact rfl)) | fail) | (go_simp; (try go_bits); first | exact gives_same | exact gives_skip | with_reducible exact gives_call (PD0.out wx _ hd2 (kr wx hwx) (HRX.out wx (hx0.trans hwx))) | with_reducible exact gives_call (PLL.out wx)))
                     · (simp only [Act.put, List.setIfInBounds_toArray, List.set_cons_succ, List.set_cons_zero]; rfl))
                  | (apply walk_not rfl rfl rfl
                     · (simp only [Act.put, List.setIfInBounds_toArray, List.set_cons_succ, List.set_cons_zero]; rfl)))
              intro wz hwz
              simp only [List.zip_cons_cons, List.zip_nil_right]
              repeat (first | rw [fin_is] | (rw [fin_cons]; intro _ _))
              rw [fin_nil]
              try (replace hm := hm.ext hwz)
              simp only [Act.put, List.setIfInBounds_toArray, List.set_cons_succ, List.set_cons_zero]
              clear kr hx0
              go_wp2_with (first | ((((with_reducible show wpList _ _ _ (Oper.mk _ (Op.store _ _ _) _ _ _ _ :: _) _ _); first | ((with_reducible apply wq_stW hm); (exact rfl); infer_instance; (exact rfl); (exact rfl); (focus ((repeat (first | exact .hd | assumption | apply Swap.tl)); done)); (focus (first | rfl | omega | (simp; done) | (simp; omega) | fail)); (focus (first | rfl | omega | (simp; done) | (simp; omega) | fail)); (focus (first | exact one_map _ | (simp [one8, one32, one64]; done) | fail))) | fail)); clear hm; intro w hm) | fail)
              have kr := fun wx (hwx : Ext _ wx) => KeyR.own (g := g) (gt := gt) (gb := gb) OKK.out (hm.ext hwx) (by repeat (first | exact Has.hd | assumption | apply Has.tl)) (by repeat (first | exact Has.hd | assumption | apply Has.tl))
              have hx0 := hm.x
              refine region_at 10 (fun w' => Ext _ w') 87 (by kernel_rfl) (by kernel_rfl) rfl (fun _ _ h k => h.trans k) (drew_ext _) ?_
              simp only [List.take_succ_cons, List.take_zero, List.drop_succ_cons, List.drop_zero, List.map_cons, List.map_nil]
              repeat (first
                  | (apply walk_is rfl rfl rfl
                     · (intro wx hwx; first | ((with_reducible show gives _ _ _ (Sem.run _ (execOp _ (Oper.mk _ (Op.load _ _) _ _ _ _)) _)); first | ((with_reducible apply gq_ldv (hm.ext hwx)); infer_instance; (exact rfl); (focus ((repeat (first | exact .hd | assumption | apply Has.tl)); done)); (focus (first | omega | (simp; omega) | (refine Nat.lt_of_lt_of_le (BitVec.isLt _) ?_; first | omega | (simp; done) | (simp; omega) | fail) | fail))) | ((with_reducible apply gq_ldW (hm.ext hwx)); infer_instance; (exact rfl); (focus ((repeat (first | exact .hd | assumption | apply Has.tl)); done)); (focus (first | rfl | omega | (simp; done) | (simp; omega) | fail))) | ((with_reducible apply gq_ld1 (hm.ext hwx)); infer_instance; (exact rfl); (focus ((repeat (first | exact .hd | assumption | apply Has.tl)); done)); (exact rfl)) | fail) | (go_simp; (try go_bits); first | exact gives_same | exact gives_skip | with_reducible exact gives_call (PK.out wx g (kr wx hwx) (HRX.out wx (hx0.trans hwx))) | with_reducible exact gives_call (AW.out wx (hx0.trans hwx))))
                     · (simp only [Act.put, List.setIfInBounds_toArray, List.set_cons_succ, List.set_cons_zero]; rfl))
                  | (apply walk_not rfl rfl rfl
                     · (simp only [Act.put, List.setIfInBounds_toArray, List.set_cons_succ, List.set_cons_zero]; rfl)))
              intro wz hwz
              simp only [List.zip_cons_cons, List.zip_nil_right]
              repeat (first | rw [fin_is] | (rw [fin_cons]; intro _ _))
              rw [fin_nil]
              try (replace hm := hm.ext hwz)
              simp only [Act.put, List.setIfInBounds_toArray, List.set_cons_succ, List.set_cons_zero]
              go_wp2_with fail
              go_ret
              exact ⟨rfl, hm.x⟩
  · have e : rightL key = false := by cases h : rightL key <;> simp_all
    rw [e] at CR
    go_enter Tryd.func5, Tryd.ntmps5
    go_wp2_with (first | (go_at_call 19; (with_reducible refine (CR.out _).mono ?_); rintro e_ w_ ⟨rfl, rfl⟩) | fail)
    go_ret
    exact ⟨rfl, hm.x⟩

end Go.Proofs.YtmgopjeaehmbfaaDoor
