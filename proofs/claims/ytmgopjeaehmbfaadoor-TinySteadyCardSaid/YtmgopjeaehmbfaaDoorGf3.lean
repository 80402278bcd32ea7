/-
  Layer 2: the reference's products, powers, inverses, boxes. No conditions.
-/
import Derived.Test.YtmgopjeaehmbfaaDoorGf1
namespace Go.Proofs.YtmgopjeaehmbfaaDoor
open Go Go.RowKit
set_option maxRecDepth 100000
set_option linter.unusedVariables false
set_option linter.unusedSimpArgs false

theorem bits_xor16 (P : BitVec 16) (y : Nat) (hy : y < 65536) : bits .xor .i64 (P.toNat : Int) (y : Int) = ((P ^^^ BitVec.ofNat 16 y).toNat : Nat) := by
  have hP := P.isLt
  show IntKind.i64.wrap ((BitVec.ofInt 64 (P.toNat : Int) ^^^ BitVec.ofInt 64 (y : Int)).toNat : Nat) = _
  have h : P.toNat ^^^ y < 2 ^ 16 := Nat.xor_lt_two_pow hP hy
  have e : (BitVec.ofInt 64 (P.toNat : Int) ^^^ BitVec.ofInt 64 (y : Int)).toNat = P.toNat ^^^ y := by
    rw [ofInt_nat', ofInt_nat', BitVec.toNat_xor, BitVec.toNat_ofNat, BitVec.toNat_ofNat, Nat.mod_eq_of_lt (by omega), Nat.mod_eq_of_lt (by omega)]
  rw [e, IntWalk.i64_in _ (by omega), BitVec.toNat_xor, BitVec.toNat_ofNat, Nat.mod_eq_of_lt hy]
theorem xor_shl (P : BitVec 16) (x k : Nat) (h : x * 2 ^ k < 65536) : bits .xor .i64 (P.toNat : Int) (wrap64 ((x : Int) * 2 ^ k)) = ((P ^^^ (BitVec.ofNat 16 x <<< k)).toNat : Nat) := by
  have e : ((x : Int) * 2 ^ k) = ((x * 2 ^ k : Nat) : Int) := by simp
  have e2 : BitVec.ofNat 16 x <<< k = BitVec.ofNat 16 (x * 2 ^ k) := by
    apply BitVec.eq_of_toNat_eq
    simp only [BitVec.toNat_shiftLeft, BitVec.toNat_ofNat, Nat.shiftLeft_eq]
    rw [Nat.mod_mul_mod]
  rw [e, show wrap64 ((x * 2 ^ k : Nat) : Int) = ((x * 2 ^ k : Nat) : Int) from by simp only [wrap64]; omega, bits_xor16 P _ h, e2]
theorem of_width (a : Byte) : BitVec.ofNat 16 a.toNat = a.setWidth 16 := by apply BitVec.eq_of_toNat_eq; simp
theorem pow_small (x k b : Nat) (hx : x < b) (hk : k ≤ 7) : x * 2 ^ k < b * 128 :=
  Nat.lt_of_lt_of_le (Nat.mul_lt_mul_of_pos_right hx (Nat.two_pow_pos k)) (Nat.mul_le_mul_left b (Nat.pow_le_pow_right (by omega) hk))
theorem bit16 (p : BitVec 16) (i : Nat) : (((p.toNat : Int) / 2 ^ i).tmod 2 == 1) = p.getLsbD i := by
  rw [Int.tmod_eq_emod_of_nonneg (Int.ediv_nonneg (by omega) (Int.le_of_lt (Int.pow_pos (by omega))))]
  have e : ((p.toNat : Int) / 2 ^ i) = ((p.toNat / 2 ^ i : Nat) : Int) := by simp
  rw [e, BitVec.getLsbD, Nat.testBit_eq_decide_div_mod_eq, Bool.eq_iff_iff]
  simp only [beq_iff_eq, decide_eq_true_eq]; omega

set_option maxHeartbeats 1000000 in
theorem rtimes_any (a b : Byte) (w : World) : Calls Tryd.prog 129 #[v8 a, v8 b] w fun e w' => e = .returned (v8 (rtms a b)) ∧ w = w' := by
  go_enter Tryd.func129, Tryd.ntmps129
  go_wp2
  go_loop [5, 6] (fun n i => ∃ k : Nat, k ≤ 8 ∧ i = .int .i64 k ∧ n = .int .i64 ((rp a b k).toNat : Nat)) (fun _ i => 8 - (intOf i).toNat)
  case atStart => exact ⟨0, by omega, rfl, rfl⟩
  case round =>
    obtain ⟨k, hk, rfl, rfl⟩ := hrel
    by_cases hlt : k < 8
    · have h8 := bit8 b k hlt
      have hx := xor_shl (rp a b k) a.toNat k (by have := pow_small a.toNat k 256 a.isLt (by omega); omega)
      have Hx := Lib.hid hx
      clear hx
      cases hb : b.getLsbD k with
      | true =>
        rw [hb] at h8
        have Hb := Lib.hid hb
        clear hb
        go_wp2
        go_round
        case rel => exact ⟨k + 1, by omega, by go_num, int_eq (Hx.out.trans (by rw [rp, sel, Hb.out, if_pos rfl, of_width]))⟩
        case measure => simp [intOf] <;> omega
      | false =>
        rw [hb] at h8
        have Hb := Lib.hid hb
        clear hb
        go_wp2
        go_round
        case rel => exact ⟨k + 1, by omega, by go_num, by rw [rp, sel, Hb.out]; simp⟩
        case measure => simp [intOf] <;> omega
    · obtain rfl : k = 8 := by omega
      go_wp2
      generalize hP : rp a b 8 = P at *
      go_loop [5, 7] (fun n i => ∃ j : Nat, j ≤ 7 ∧ i = .int .i64 ((14 - j : Nat) : Int) ∧ n = .int .i64 ((rr P j).toNat : Nat)) (fun _ i => (intOf i).toNat)
      case atStart => exact ⟨0, by omega, rfl, rfl⟩
      case round =>
        obtain ⟨j, hj, rfl, rfl⟩ := hrel
        by_cases hlt : j < 7
        · have hbit := bit16 (rr P j) (14 - j)
          have hx := xor_shl (rr P j) 283 (6 - j) (by have := pow_small 283 (6 - j) 284 (by omega) (by omega); omega)
          have hrr : rr P (j + 1) = rr P j ^^^ sel ((rr P j).getLsbD (14 - j)) (283#16 <<< (6 - j)) := rfl
          obtain ⟨i, hi, hi8, hi14⟩ : ∃ i : Nat, 14 - j = i ∧ 8 ≤ i ∧ i ≤ 14 := ⟨14 - j, rfl, by omega, by omega⟩
          rw [hi] at hbit hrr ⊢
          rw [show 6 - j = i - 8 from by omega] at hx hrr
          have Hx := Lib.hid hx
          have Hr := Lib.hid hrr
          have Hi := Lib.hid hi
          clear hx hrr hi hP
          cases hb : (rr P j).getLsbD i with
          | true =>
            rw [hb] at hbit
            have Hb := Lib.hid hb
            clear hb
            go_wp2
            go_round
            case rel => exact ⟨j + 1, by omega, int_eq (by have := Hi.out; omega), int_eq (Hx.out.trans (by rw [Hr.out, Hb.out]; rfl))⟩
            case measure => simp [intOf] <;> omega
          | false =>
            rw [hb] at hbit
            have Hb := Lib.hid hb
            clear hb
            go_wp2
            go_round
            case rel => exact ⟨j + 1, by omega, int_eq (by have := Hi.out; omega), by rw [Hr.out, Hb.out]; simp [sel]⟩
            case measure => simp [intOf] <;> omega
        · obtain rfl : j = 7 := by omega
          have HP := Lib.hid hP
          clear hP
          go_wp2
          go_ret
          refine ⟨congrArg Ending.returned (int_eq ?_), rfl⟩
          rw [rtms, HP.out, BitVec.toNat_setWidth]; try omega

theorem rtimes_tms (a b : Byte) (w : World) : Calls Tryd.prog 129 #[v8 a, v8 b] w fun e w' => e = .returned (v8 (tms a b)) ∧ w = w' := rtms_tms a b ▸ rtimes_any a b w

theorem ofNat_ne {k m : Nat} (hk : k < 256) (hm : m < 256) (h : BitVec.ofNat 8 k = BitVec.ofNat 8 m) : k = m := by
  have := congrArg BitVec.toNat h
  simp only [BitVec.toNat_ofNat] at this; omega

set_option maxHeartbeats 1000000 in
theorem rinverse_any (a : Byte) (w : World) : Calls Tryd.prog 117 #[v8 a] w fun e w' => e = .returned (v8 (inv a)) ∧ w = w' := by
  have hz : a = 0#8 → inv a = 0#8 := by rintro rfl; exact inv_zero
  have hi : a ≠ 0#8 → 0 < (inv a).toNat := fun h => Nat.pos_of_ne_zero fun e => inv_ne a h (BitVec.eq_of_toNat_eq e)
  have hu : ∀ x, tms a x = 1#8 → inv a = x := fun x h => (inv_unique a x h).symm
  have hv : a ≠ 0#8 → tms a (inv a) = 1#8 := inv_mul a
  have hl : (inv a).toNat < 256 := (inv a).isLt
  have he : BitVec.ofNat 8 (inv a).toNat = inv a := by simp
  generalize inv a = R at *
  have HZ := Lib.hid hz
  have HI := Lib.hid hi
  have HU := Lib.hid hu
  have HV := Lib.hid hv
  have HE := Lib.hid he
  clear hz hi hu hv he
  go_enter Tryd.func117, Tryd.ntmps117
  go_wp2
  go_loop [3] (fun i => ∃ k : Nat, 1 ≤ k ∧ k ≤ 256 ∧ i = .int .i64 k ∧ (a ≠ 0#8 → k ≤ R.toNat)) (fun i => 256 - (intOf i).toNat)
  case atStart => exact ⟨1, by omega, by omega, rfl, fun h => HI.out h⟩
  case round =>
    obtain ⟨k, hk1, hk, rfl, hR⟩ := hrel
    have HR := Lib.hid hR
    clear hR
    by_cases hlt : k < 256
    · have c := rtimes_tms a (BitVec.ofNat 8 k) w
      have hcv : v8 (BitVec.ofNat 8 k) = .int .u8 k := int_eq (by simp; omega)
      rw [hcv] at c
      cases hb : (tms a (BitVec.ofNat 8 k) == 1#8) with
      | true =>
        have h1 := HU.out _ (by simpa using hb)
        have H1 := Lib.hid h1
        have Hcv := Lib.hid hcv
        clear h1 hcv
        go_wp2_with fail
        refine c.mono ?_
        rintro e w' ⟨rfl, rfl⟩
        go_wp2
        go_ret
        exact ⟨by rw [H1.out, Hcv.out]; rfl, rfl⟩
      | false =>
        clear hcv
        have hne : a ≠ 0#8 → k ≠ R.toNat := by
          intro h e
          have h2 := HV.out h
          rw [← HE.out, ← e] at h2
          rw [h2] at hb; simp at hb
        have HN := Lib.hid hne
        clear hne
        go_wp2_with fail
        refine c.mono ?_
        rintro e w' ⟨rfl, rfl⟩
        go_wp2
        go_round
        case rel => exact ⟨k + 1, by omega, by omega, by go_num, fun h => by have := HN.out h; have := HR.out h; omega⟩
        case measure => simp [intOf] <;> omega
    · obtain rfl : k = 256 := by omega
      have ha : a = 0#8 := Classical.byContradiction fun h => by have := HR.out h; omega
      have h0 := HZ.out ha
      have H0 := Lib.hid h0
      clear h0 ha
      go_wp2
      go_ret
      exact ⟨by rw [H0.out]; rfl, rfl⟩

theorem rbit_any (a : Byte) (k : Nat) (w : World) (hk : k ≤ 1000) : Calls Tryd.prog 118 #[v8 a, .int .i64 k] w fun e w' => e = .returned (v8 (rbit a k)) ∧ w = w' := by
  have hm : (k : Int).tmod 8 = ((k % 8 : Nat) : Int) := by rw [Int.tmod_eq_emod_of_nonneg (by omega)]; omega
  have hq : k % 8 < 8 := Nat.mod_lt _ (by omega)
  unfold rbit
  generalize k % 8 = q at *
  go_enter Tryd.func118, Tryd.ntmps118
  go_wp2
  go_ret
  exact ⟨rfl, rfl⟩

set_option maxHeartbeats 1000000 in
theorem rbox_any (a : Byte) (w : World) : Calls Tryd.prog 93 #[v8 a] w fun e w' => e = .returned (v8 (sbox a)) ∧ w = w' := by
  have he : rbx (inv a) 8 = sbox a := rbx_box (inv a)
  generalize sbox a = R at *
  have c := rinverse_any a w
  generalize inv a = i at *
  have HE := Lib.hid he
  clear he
  have c99 : ∀ (k : Nat) (w : World), k ≤ 1000 → Calls Tryd.prog 118 #[.int .u8 99, .int .i64 k] w fun e w' => e = .returned (v8 (rbit 99#8 k)) ∧ w = w' := fun k w hk => rbit_any 99#8 k w hk
  go_enter Tryd.func93, Tryd.ntmps93
  go_wp2_with fail
  refine c.mono ?_
  rintro e w' ⟨rfl, rfl⟩
  go_wp2
  go_loop [4, 5] (fun o k => ∃ n : Nat, n ≤ 8 ∧ k = .int .i64 n ∧ o = v8 (rbx i n)) (fun _ k => 8 - (intOf k).toNat)
  case atStart => exact ⟨0, by omega, rfl, rfl⟩
  case round =>
    obtain ⟨n, hn, rfl, rfl⟩ := hrel
    by_cases hlt : n < 8
    · have b0 := fun w => rbit_any i n w (by omega)
      have b7 := fun w => rbit_any i (n + 7) w (by omega)
      have b6 := fun w => rbit_any i (n + 6) w (by omega)
      have b5 := fun w => rbit_any i (n + 5) w (by omega)
      have b4 := fun w => rbit_any i (n + 4) w (by omega)
      have b9 := fun w => c99 n w (by omega)
      simp only [Int.natCast_add, Int.cast_ofNat_Int] at b7 b6 b5 b4
      go_wp2_with (first | (go_at_call 118; (first | (with_reducible refine (b0 _).mono ?_) | (with_reducible refine (b7 _).mono ?_) | (with_reducible refine (b6 _).mono ?_) | (with_reducible refine (b5 _).mono ?_) | (with_reducible refine (b4 _).mono ?_) | (with_reducible refine (b9 _).mono ?_)); rintro e w' ⟨rfl, rfl⟩) | fail)
      go_round
      case rel => exact ⟨n + 1, by omega, by go_num, rfl⟩
      case measure => simp [intOf] <;> omega
    · obtain rfl : n = 8 := by omega
      go_wp2
      go_ret
      exact ⟨by rw [HE.out]; rfl, rfl⟩

/-- All boxes. -/
def boxTab : List Byte := tab 256 fun a => sbox (BitVec.ofNat 8 a)
set_option maxHeartbeats 1000000 in
theorem rtable_any (w0 : World) : Gives Tryd.prog 59 #[] w0 (A8 boxTab) := by
  unfold Gives
  have hm := Own.start w0
  have cb : ∀ (k : Nat), k < 256 → ∀ w, Calls Tryd.prog 93 #[.int .u8 k] w fun e w' => e = .returned (v8 (sbox (BitVec.ofNat 8 k))) ∧ w = w' := fun k hk w => by
    have := rbox_any (BitVec.ofNat 8 k) w
    rwa [show v8 (BitVec.ofNat 8 k) = .int .u8 k from int_eq (by simp; omega)] at this
  go_enter Tryd.func59, Tryd.ntmps59
  go_wp2_with (first | ((first | ((with_reducible show wpList _ _ _ (Oper.mk _ (Op.alloc _) _ _ _ _ :: _) _ _); first | ((with_reducible apply wq_new hm); (exact rfl); infer_instance) | fail)); clear hm; (first | (have hx_ := g1; clear hx_; (first | (have hx_ := g2; clear hx_; (first | (have hx_ := g3; clear hx_; (first | (have hx_ := g4; clear hx_; (first | (have hx_ := g5; clear hx_; (first | (have hx_ := g6; clear hx_; (first | (have hx_ := g7; clear hx_; (first | (have hx_ := g8; clear hx_; (first | (have hx_ := g9; clear hx_; intro g10) | intro g9)) | intro g8)) | intro g7)) | intro g6)) | intro g5)) | intro g4)) | intro g3)) | intro g2)) | intro g1); intro w hm) | fail)
  go_loopw [2] (fun i wr => ∃ k : Nat, k ≤ 256 ∧ i = .int .i64 k ∧ Own w0 wr [⟨g2, 30, (part 256 k (fun a => sbox (BitVec.ofNat 8 a)) fun _ => 0).map v8⟩, ⟨g1, 30, (zer 256).map v8⟩]) (fun i _ => 256 - (intOf i).toNat)
  case atStart => exact ⟨0, by omega, rfl, by rw [← zer_start]; exact hm⟩
  case round =>
    obtain ⟨k, hk, rfl, hm⟩ := hrel
    by_cases hlt : k < 256
    · have c := cb k hlt
      go_wp2_with (first | (go_at_call 93; (with_reducible refine (c _).mono ?_); rintro e w' ⟨rfl, rfl⟩) | ((((with_reducible show wpList _ _ _ (Oper.mk _ (Op.store _ _ _) _ _ _ _ :: _) _ _); first | ((with_reducible apply wq_stv hm); (exact rfl); infer_instance; (exact rfl); (focus ((repeat (first | exact .hd | assumption | apply Swap.tl)); done)); infer_instance; (exact rfl); (focus (first | omega | (simp; omega) | (refine Nat.lt_of_lt_of_le (BitVec.isLt _) ?_; first | omega | (simp; done) | (simp; omega) | fail) | fail))) | fail)); clear hm; intro w hm) | fail)
      go_roundw
      case rel =>
        rw [part_set' hlt rfl] at hm
        exact ⟨k + 1, by omega, by go_num, hm⟩
      case measure => simp [intOf] <;> omega
    · obtain rfl : k = 256 := by omega
      rw [part_all] at hm
      go_wp2_with (first | ((with_reducible show wpList _ _ _ (Oper.mk _ (Op.load _ _) _ _ _ _ :: _) _ _); first | ((with_reducible apply wq_ldW hm); (exact rfl); infer_instance; (exact rfl); (focus ((repeat (first | exact .hd | assumption | apply Has.tl)); done)); (focus (first | rfl | omega | (simp; done) | (simp; omega) | fail))) | fail) | ((((with_reducible show wpList _ _ _ (Oper.mk _ (Op.store _ _ _) _ _ _ _ :: _) _ _); first | ((with_reducible apply wq_stW hm); (exact rfl); infer_instance; (exact rfl); (exact rfl); (focus ((repeat (first | exact .hd | assumption | apply Swap.tl)); done)); (focus (first | rfl | omega | (simp; done) | (simp; omega) | fail)); (focus (first | rfl | omega | (simp; done) | (simp; omega) | fail)); (focus (first | exact one_map _ | (simp [one8, one32, one64]; done) | fail))) | fail)); clear hm; intro w hm) | fail)
      refine ret_own hm rfl rfl (by infer_instance) (by repeat (first | exact Has.hd | assumption | apply Has.tl)) (by first | rfl | omega | (simp only [zeros_length, zer_length, tab_length, part_length, setN_length, List.length_map, List.length_cons, List.length_nil, List.length_append, List.length_take, List.length_drop, List.length_replicate, blk_length, putL_length] <;> omega) | fail) rfl ⟨rfl, hm.x⟩

end Go.Proofs.YtmgopjeaehmbfaaDoor
