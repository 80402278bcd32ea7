/-
  Layer 14: half bytes of bytes, and bytes of half bytes. Conditions: those written in each theorem.
-/
import Derived.Test.YtmgopjeaehmbfaaDoorTiny1
namespace Go.Proofs.YtmgopjeaehmbfaaDoor
open Go Go.RowKit
set_option maxRecDepth 100000
set_option linter.unusedVariables false
set_option linter.unusedSimpArgs false

theorem zeros_part (n : Nat) (f : Nat → Byte) : zeros n = part n 0 f (fun _ => 0#8) := nth_ext (by rw [zeros_length, part_length]) fun i hi => by
  rw [zeros_length] at hi
  rw [nth_part_ge hi (Nat.zero_le _)]
  simp [zeros, nth, hi]
theorem nib_even (b : List Byte) (k q : Nat) (hq : k = 2 * q) : nibL b k = (nth b q >>> 4) &&& 15#8 := by
  subst hq
  rw [nibL, show 2 * q / 2 = q by omega, show 2 * q % 2 = 0 by omega]
theorem nib_odd (b : List Byte) (k q : Nat) (hq : k = 2 * q + 1) : nibL b k = nth b q &&& 15#8 := by
  subst hq
  rw [nibL, show (2 * q + 1) / 2 = q by omega, show (2 * q + 1) % 2 = 1 by omega]
  show (nth b q >>> 0) &&& 15#8 = _
  rw [BitVec.ushiftRight_zero]
set_option maxHeartbeats 4000000 in
theorem halves_new (l : List Byte) (p : Option Addr) (c : Nat) (fb n fc k B : Nat) (hn : FlIn fb n B (2 * l.length)) (hk : FlIn fc k B (2 * l.length)) (h : n + k ≤ 2 * l.length) (hl : l.length ≤ 1000) (w0 : World) (hr : RdB w0 p l) :
    Calls Tryd.prog 44 #[.slice p l.length c, .complex .f64 fb fc] w0 fun e w' => ∃ g, e = .returned (.tuple #[.slice (some ⟨g, 0, none⟩) k k, .bool true]) ∧ Own w0 w' [⟨g, 5, (halvesL l n k).map v8⟩] := by
  have hm := Own.start w0
  have W1 := Lib.hid fun w => show Calls Tryd.prog 76 #[.complex .f64 fb fc, .int .i64 (2 * (l.length : Int))] w fun e w' => e = .returned (.tuple #[.int .i64 (n : Int), .int .i64 (k : Int), .bool true]) ∧ Ext w w' from by
    have := whole_any fb n fc k B (2 * l.length) hn hk h (by omega) w
    rwa [show ((2 * l.length : Nat) : Int) = 2 * (l.length : Int) by omega] at this
  have b1 : 2 * (l.length : Int) ≤ 9223372036854775807 := by omega
  have HR := Lib.hid hr
  have EZ := Lib.hid (zeros_part k fun i => nibL l (n + i))
  have EE : Hid (part k k (fun i => nibL l (n + i)) (fun _ => 0#8) = halvesL l n k) := Lib.hid part_all
  clear hn hk hr
  go_enter Tryd.func44, Tryd.ntmps44
  go_wp2_with (first | (go_at_call 76; (with_reducible refine (W1.out _).mono ?_); rintro e_ w ⟨rfl, hx_⟩; replace hm := hm.ext hx_; clear hx_) | ((with_reducible apply wq_mkR k k hm); exact rfl; exact rfl; exact rfl; exact rfl; (focus omega); (focus omega); (focus omega); clear hm; intro g1 w hm) | fail)
  rw [EZ.out] at hm
  go_loopw [27] (fun i wr => ∃ j : Nat, j ≤ k ∧ i = .int .i64 j ∧ Own w0 wr [⟨g1, 5, (part k j (fun i => nibL l (n + i)) (fun _ => 0#8)).map v8⟩]) (fun i _ => k - (intOf i).toNat)
  case atStart => exact ⟨0, by omega, rfl, hm⟩
  case round =>
    obtain ⟨j, hj, rfl, hm⟩ := hrel
    by_cases hlt : j < k
    · have hd : decide ((j : Int) < (k : Int)) = true := decide_eq_true (by omega)
      have hd2 : (j : Int) < (k : Int) := by omega
      obtain ⟨J, hJ⟩ : ∃ J, J = n + j := ⟨_, rfl⟩
      obtain ⟨q, hq⟩ : ∃ q, q = J / 2 := ⟨_, rfl⟩
      have x1 : (n : Int) + (j : Int) = (J : Int) := by omega
      have x2 : (J : Int) / 2 = (q : Int) := by omega
      have x3 : (J : Int).tdiv 2 = (q : Int) := by rw [Int.tdiv_eq_ediv_of_nonneg (by omega)]; exact x2
      have hc := (HR.out.ext hm.x).at q (by omega)
      obtain ⟨a, rfl⟩ := Option.isSome_iff_exists.1 (HR.out.1 (by omega))
      simp only [Option.getD_some] at hc
      rw [show l.getD q 0 = nth l q from rfl] at hc
      have x4 : q < l.length := by omega
      have x5 : (q : Int) < (l.length : Int) := by omega
      have EJ : Hid (setN (part k j (fun i => nibL l (n + i)) (fun _ => 0#8)) j (nibL l J) = part k (j + 1) (fun i => nibL l (n + i)) (fun _ => 0#8)) := Lib.hid (by rw [hJ]; exact part_set (f := fun i => nibL l (n + i)) hlt)
      have lJ : (part k j (fun i => nibL l (n + i)) (fun _ => 0#8)).length = k := part_length
      generalize part k j (fun i => nibL l (n + i)) (fun _ => 0#8) = C at *
      rcases Nat.mod_two_eq_zero_or_one J with hp | hp
      · have y1 : (J : Int) % 2 = 0 := by omega
        have y2 : (J : Int).tmod 2 = 0 := by rw [Int.tmod_eq_emod_of_nonneg (by omega)]; exact y1
        have eN := Lib.hid (nib_even l J q (by omega))
        clear hp hq hJ
        go_wp2_with (first | ((((with_reducible show wpList _ _ _ (Oper.mk _ (Op.store _ _ _) _ _ _ _ :: _) _ _); first | ((with_reducible apply wq_stv hm); (exact rfl); infer_instance; (exact rfl); (focus ((repeat (first | exact .hd | assumption | apply Swap.tl | apply Swap.app)); done)); infer_instance; (exact rfl); (focus (first | omega | (simp; omega) | (refine Nat.lt_of_lt_of_le (BitVec.isLt _) ?_; first | omega | (simp; done) | (simp; omega) | fail) | fail))) | fail)); clear hm; intro w hm) | fail)
        go_roundw
        case rel => rw [← eN.out, EJ.out] at hm; exact ⟨j + 1, by omega, by go_num, hm⟩
        case measure => simp [intOf] <;> omega
      · have y1 : (J : Int) % 2 = 1 := by omega
        have y2 : (J : Int).tmod 2 = 1 := by rw [Int.tmod_eq_emod_of_nonneg (by omega)]; exact y1
        have eN := Lib.hid (nib_odd l J q (by omega))
        clear hp hq hJ
        go_wp2_with (first | ((((with_reducible show wpList _ _ _ (Oper.mk _ (Op.store _ _ _) _ _ _ _ :: _) _ _); first | ((with_reducible apply wq_stv hm); (exact rfl); infer_instance; (exact rfl); (focus ((repeat (first | exact .hd | assumption | apply Swap.tl | apply Swap.app)); done)); infer_instance; (exact rfl); (focus (first | omega | (simp; omega) | (refine Nat.lt_of_lt_of_le (BitVec.isLt _) ?_; first | omega | (simp; done) | (simp; omega) | fail) | fail))) | fail)); clear hm; intro w hm) | fail)
        go_roundw
        case rel => rw [← eN.out, EJ.out] at hm; exact ⟨j + 1, by omega, by go_num, hm⟩
        case measure => simp [intOf] <;> omega
    · obtain rfl : j = k := by omega
      have hd : decide ((j : Int) < (j : Int)) = false := decide_eq_false (by omega)
      rw [EE.out] at hm
      go_wp2_with fail
      go_ret2
      exact ⟨g1, rfl, hm⟩

/-- Bytes of the first i half bytes. -/
def joinG (hs : List Byte) (i : Nat) : List Byte := tab ((hs.length + 1) / 2) fun q => (if 2 * q < i then (nth hs (2 * q) &&& 15#8) <<< 4 else 0#8) ||| (if 2 * q + 1 < i then nth hs (2 * q + 1) &&& 15#8 else 0#8)
theorem joinG_length (hs : List Byte) (i : Nat) : (joinG hs i).length = (hs.length + 1) / 2 := tab_length
theorem joinG_zero (hs : List Byte) : zeros ((hs.length + 1) / 2) = joinG hs 0 := nth_ext (by rw [zeros_length, joinG_length]) fun i hi => by
  rw [zeros_length] at hi
  rw [joinG, nth_tab hi, if_neg (by omega), if_neg (by omega)]
  simp [zeros, nth, hi]
theorem joinG_all (hs : List Byte) : joinG hs hs.length = joinN hs := nth_ext (by rw [joinG_length, joinN_length]) fun i hi => by
  rw [joinG_length] at hi
  rw [joinG, joinN, nth_tab hi, nth_tab hi, if_pos (by omega)]
  by_cases e : 2 * i + 1 < hs.length
  · rw [if_pos e]
  · rw [if_neg e, nth_ge (l := hs) (i := 2 * i + 1) (by omega)]; rfl
theorem joinG_even (hs : List Byte) (i q : Nat) (hi : i < hs.length) (hq : i = 2 * q) : setN (joinG hs i) q (nth (joinG hs i) q ||| ((nth hs i &&& 15#8) <<< 4)) = joinG hs (i + 1) := nth_ext (by rw [setN_length, joinG_length, joinG_length]) fun j hj => by
  rw [setN_length, joinG_length] at hj
  subst hq
  rw [nth_set (by rw [joinG_length]; exact hj), joinG, joinG, nth_tab hj, nth_tab (by omega), nth_tab hj]
  by_cases e : q = j
  · subst e
    rw [if_pos rfl, if_neg (by omega), if_neg (by omega), if_pos (by omega), if_neg (by omega)]
    simp
  · rw [if_neg e]
    congr 1
    · by_cases h : 2 * j < 2 * q
      · rw [if_pos h, if_pos (by omega)]
      · rw [if_neg h, if_neg (by omega)]
    · by_cases h : 2 * j + 1 < 2 * q
      · rw [if_pos h, if_pos (by omega)]
      · rw [if_neg h, if_neg (by omega)]
theorem joinG_odd (hs : List Byte) (i q : Nat) (hi : i < hs.length) (hq : i = 2 * q + 1) : setN (joinG hs i) q (nth (joinG hs i) q ||| (nth hs i &&& 15#8)) = joinG hs (i + 1) := nth_ext (by rw [setN_length, joinG_length, joinG_length]) fun j hj => by
  rw [setN_length, joinG_length] at hj
  subst hq
  rw [nth_set (by rw [joinG_length]; exact hj), joinG, joinG, nth_tab hj, nth_tab (by omega), nth_tab hj]
  by_cases e : q = j
  · subst e
    rw [if_pos rfl, if_pos (by omega), if_neg (by omega), if_pos (by omega), if_pos (by omega)]
    simp
  · rw [if_neg e]
    congr 1
    · by_cases h : 2 * j < 2 * q + 1
      · rw [if_pos h, if_pos (by omega)]
      · rw [if_neg h, if_neg (by omega)]
    · by_cases h : 2 * j + 1 < 2 * q + 1
      · rw [if_pos h, if_pos (by omega)]
      · rw [if_neg h, if_neg (by omega)]
set_option maxHeartbeats 4000000 in
theorem join_new (l : List Byte) (p : Option Addr) (c : Nat) (hl : l.length ≤ 1000) (w0 : World) (hr : RdB w0 p l) :
    Calls Tryd.prog 48 #[.slice p l.length c] w0 fun e w' => ∃ g, e = .returned (.slice (some ⟨g, 0, none⟩) ((l.length + 1) / 2) ((l.length + 1) / 2)) ∧ Own w0 w' [⟨g, 5, (joinN l).map v8⟩] := by
  have hm := Own.start w0
  have HR := Lib.hid hr
  have EZ := Lib.hid (joinG_zero l)
  have EA := Lib.hid (joinG_all l)
  have E0 := Lib.hid (joinG_even l)
  have E1 := Lib.hid (joinG_odd l)
  have lG := Lib.hid (joinG_length l)
  obtain ⟨m, hm2⟩ : ∃ m, m = (l.length + 1) / 2 := ⟨_, rfl⟩
  have x1 : ((l.length : Int) + 1) / 2 = (m : Int) := by omega
  have x2 : ((l.length : Int) + 1).tdiv 2 = (m : Int) := by rw [Int.tdiv_eq_ediv_of_nonneg (by omega)]; exact x1
  rw [← hm2] at EZ lG ⊢
  have HM := Lib.hid hm2
  have m1 : m ≤ 1000 := by omega
  clear hr hm2
  go_enter Tryd.func48, Tryd.ntmps48
  go_wp2_with (first | ((with_reducible apply wq_mkR m m hm); exact rfl; exact rfl; exact rfl; exact rfl; (focus omega); (focus omega); (focus omega); clear hm; intro g1 w hm) | fail)
  rw [EZ.out] at hm
  go_loopw [13] (fun i wr => ∃ j : Nat, j ≤ l.length ∧ i = .int .i64 j ∧ Own w0 wr [⟨g1, 5, (joinG l j).map v8⟩]) (fun i _ => l.length - (intOf i).toNat)
  case atStart => exact ⟨0, by omega, rfl, hm⟩
  case round =>
    obtain ⟨j, hj, rfl, hm⟩ := hrel
    have lj := lG.out j
    by_cases hlt : j < l.length
    · have hd : decide ((j : Int) < (l.length : Int)) = true := decide_eq_true (by omega)
      have hd2 : (j : Int) < (l.length : Int) := by omega
      have hc := (HR.out.ext hm.x).at j hlt
      obtain ⟨a, rfl⟩ := Option.isSome_iff_exists.1 (HR.out.1 (by omega))
      simp only [Option.getD_some] at hc
      rw [show l.getD j 0 = nth l j from rfl] at hc
      obtain ⟨q, hq⟩ : ∃ q, q = j / 2 := ⟨_, rfl⟩
      have y3 : (j : Int) / 2 = (q : Int) := by omega
      have y4 : (j : Int).tdiv 2 = (q : Int) := by rw [Int.tdiv_eq_ediv_of_nonneg (by omega)]; exact y3
      have y5 : q < m := by have := HM.out; omega
      have y6 : (q : Int) < (m : Int) := by omega
      rcases Nat.mod_two_eq_zero_or_one j with hp | hp
      · have y1 : (j : Int) % 2 = 0 := by omega
        have y2 : (j : Int).tmod 2 = 0 := by rw [Int.tmod_eq_emod_of_nonneg (by omega)]; exact y1
        have eN := Lib.hid (E0.out j q hlt (by omega))
        clear hp hq
        generalize hG2 : joinG l (j + 1) = G2 at *
        generalize joinG l j = G1 at *
        have HG2 := Lib.hid hG2
        clear hG2
        go_wp2_with fail
        refine region_at 14 (fun w' => Ext _ w') 34 (by kernel_rfl) (by kernel_rfl) rfl (fun _ _ h k => h.trans k) (drew_ext _) ?_
        simp only [List.take_succ_cons, List.take_zero, List.drop_succ_cons, List.drop_zero, List.map_cons, List.map_nil]
        repeat (first
            | (apply walk_is rfl rfl rfl
               · (intro wx hwx; first | ((with_reducible show gives _ _ _ (Sem.run _ (execOp _ (Oper.mk _ (Op.load _ _) _ _ _ _)) _)); first | ((with_reducible apply gq_ldv (hm.ext hwx)); infer_instance; (exact rfl); (focus ((repeat (first | exact .hd | assumption | apply Has.tl | apply Has.app)); done)); (focus (first | omega | (simp; omega) | (refine Nat.lt_of_lt_of_le (BitVec.isLt _) ?_; first | omega | (simp; done) | (simp; omega) | fail) | fail))) | ((with_reducible apply gq_ldW (hm.ext hwx)); infer_instance; (exact rfl); (focus ((repeat (first | exact .hd | assumption | apply Has.tl | apply Has.app)); done)); (focus (first | rfl | omega | (simp; done) | (simp; omega) | fail))) | ((with_reducible apply gq_ld1 (hm.ext hwx)); infer_instance; (exact rfl); (focus ((repeat (first | exact .hd | assumption | apply Has.tl | apply Has.app)); done)); (exact rfl)) | fail) | (go_simp; (try go_bits); first | exact gives_same | exact gives_skip))
               · (simp only [Act.put, List.setIfInBounds_toArray, List.set_cons_succ, List.set_cons_zero]; rfl))
            | (apply walk_not rfl rfl rfl
               · (simp only [Act.put, List.setIfInBounds_toArray, List.set_cons_succ, List.set_cons_zero]; rfl)))
        intro wz hwz
        simp only [List.zip_cons_cons, List.zip_nil_right]
        repeat (first | rw [fin_is] | (rw [fin_cons]; intro _ _))
        rw [fin_nil]
        try (replace hm := hm.ext hwz)
        simp only [Act.put, List.setIfInBounds_toArray, List.set_cons_succ, List.set_cons_zero]
        go_wp2_with (first | ((((with_reducible show wpList _ _ _ (Oper.mk _ (Op.store _ _ _) _ _ _ _ :: _) _ _); first | ((with_reducible apply wq_stv hm); (exact rfl); infer_instance; (exact rfl); (focus ((repeat (first | exact .hd | assumption | apply Swap.tl | apply Swap.app)); done)); infer_instance; (exact rfl); (focus (first | omega | (simp; omega) | (refine Nat.lt_of_lt_of_le (BitVec.isLt _) ?_; first | omega | (simp; done) | (simp; omega) | fail) | fail))) | fail)); clear hm; intro w hm) | fail)
        go_roundw
        case rel => rw [eN.out] at hm; exact ⟨j + 1, by omega, by go_num, by rw [HG2.out]; exact hm⟩
        case measure => simp [intOf] <;> omega
      · have y1 : (j : Int) % 2 = 1 := by omega
        have y2 : (j : Int).tmod 2 = 1 := by rw [Int.tmod_eq_emod_of_nonneg (by omega)]; exact y1
        have eN := Lib.hid (E1.out j q hlt (by omega))
        clear hp hq
        generalize hG2 : joinG l (j + 1) = G2 at *
        generalize joinG l j = G1 at *
        have HG2 := Lib.hid hG2
        clear hG2
        go_wp2_with fail
        refine region_at 14 (fun w' => Ext _ w') 34 (by kernel_rfl) (by kernel_rfl) rfl (fun _ _ h k => h.trans k) (drew_ext _) ?_
        simp only [List.take_succ_cons, List.take_zero, List.drop_succ_cons, List.drop_zero, List.map_cons, List.map_nil]
        repeat (first
            | (apply walk_is rfl rfl rfl
               · (intro wx hwx; first | ((with_reducible show gives _ _ _ (Sem.run _ (execOp _ (Oper.mk _ (Op.load _ _) _ _ _ _)) _)); first | ((with_reducible apply gq_ldv (hm.ext hwx)); infer_instance; (exact rfl); (focus ((repeat (first | exact .hd | assumption | apply Has.tl | apply Has.app)); done)); (focus (first | omega | (simp; omega) | (refine Nat.lt_of_lt_of_le (BitVec.isLt _) ?_; first | omega | (simp; done) | (simp; omega) | fail) | fail))) | ((with_reducible apply gq_ldW (hm.ext hwx)); infer_instance; (exact rfl); (focus ((repeat (first | exact .hd | assumption | apply Has.tl | apply Has.app)); done)); (focus (first | rfl | omega | (simp; done) | (simp; omega) | fail))) | ((with_reducible apply gq_ld1 (hm.ext hwx)); infer_instance; (exact rfl); (focus ((repeat (first | exact .hd | assumption | apply Has.tl | apply Has.app)); done)); (exact rfl)) | fail) | (go_simp; (try go_bits); first | exact gives_same | exact gives_skip))
               · (simp only [Act.put, List.setIfInBounds_toArray, List.set_cons_succ, List.set_cons_zero]; rfl))
            | (apply walk_not rfl rfl rfl
               · (simp only [Act.put, List.setIfInBounds_toArray, List.set_cons_succ, List.set_cons_zero]; rfl)))
        intro wz hwz
        simp only [List.zip_cons_cons, List.zip_nil_right]
        repeat (first | rw [fin_is] | (rw [fin_cons]; intro _ _))
        rw [fin_nil]
        try (replace hm := hm.ext hwz)
        simp only [Act.put, List.setIfInBounds_toArray, List.set_cons_succ, List.set_cons_zero]
        go_wp2_with (first | ((((with_reducible show wpList _ _ _ (Oper.mk _ (Op.store _ _ _) _ _ _ _ :: _) _ _); first | ((with_reducible apply wq_stv hm); (exact rfl); infer_instance; (exact rfl); (focus ((repeat (first | exact .hd | assumption | apply Swap.tl | apply Swap.app)); done)); infer_instance; (exact rfl); (focus (first | omega | (simp; omega) | (refine Nat.lt_of_lt_of_le (BitVec.isLt _) ?_; first | omega | (simp; done) | (simp; omega) | fail) | fail))) | fail)); clear hm; intro w hm) | fail)
        go_roundw
        case rel => rw [eN.out] at hm; exact ⟨j + 1, by omega, by go_num, by rw [HG2.out]; exact hm⟩
        case measure => simp [intOf] <;> omega
    · obtain rfl : j = l.length := by omega
      have hd : decide ((l.length : Int) < (l.length : Int)) = false := decide_eq_false (by omega)
      rw [EA.out] at hm
      go_wp2_with fail
      go_ret
      exact ⟨g1, rfl, hm⟩

end Go.Proofs.YtmgopjeaehmbfaaDoor
