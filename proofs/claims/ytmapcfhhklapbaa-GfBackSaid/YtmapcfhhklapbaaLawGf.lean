/-
  Layer 2: what the statements on the field come to, by walks of their texts. No conditions.
-/
import Derived.Test.YtmapcfhhklapbaaGf3
namespace Go.Proofs.Ytmapcfhhklapbaa
open Go Go.RowKit
set_option maxRecDepth 100000

set_option maxHeartbeats 1000000 in
theorem awake2 (w0 : World) : Gives Try.prog 47 #[] w0 (.bool true) := by
  unfold Gives
  have c1 := fun w => times_any 87#8 131#8 w
  rw [show tms 87#8 131#8 = 193#8 from by decide] at c1
  have c2 := fun g w h => to_any g 83#8 w h
  rw [show bxTo 83#8 = 237#8 from by rw [bxTo_lit]; decide] at c2
  have c3 := fun w => inverse_any 2#8 w
  rw [show inv 2#8 = 141#8 from by decide] at c3
  go_enter Try.func47, Try.ntmps47
  go_wp2_with fail
  refine (make_any _).mono ?_
  rintro e w1 ⟨v, rfl, ⟨g, rfl, hg⟩, hx⟩
  go_wp2_with fail
  refine (c1 _).mono ?_
  rintro e w' ⟨rfl, rfl⟩
  go_wp2_with fail
  refine (c2 g _ hg).mono ?_
  rintro e w' ⟨rfl, rfl⟩
  go_wp2_with fail
  refine (c3 _).mono ?_
  rintro e w' ⟨rfl, rfl⟩
  go_wp2
  go_ret
  exact ⟨rfl, hx⟩

set_option maxHeartbeats 1000000 in
theorem gftimes_walk (a b : Byte) (w0 : World) : Calls Try.prog 12 #[v8 a, v8 b] w0 fun e w' => e = .returned (.bool true) ∧ Ext w0 w' := by
  have c2 := fun w => rtimes_tms a 2#8 w
  rw [show tms a 2#8 = dbl a from by rw [tms_comm, dbl_tms]] at c2
  go_enter Try.func12, Try.ntmps12
  go_wp2_with (first | (go_at_call 44; (with_reducible refine (times_any _ _ _).mono ?_); rintro e_ w_ ⟨rfl, rfl⟩) | (go_at_call 46; (with_reducible refine (double_any _ _).mono ?_); rintro e_ w_ ⟨rfl, rfl⟩) | (go_at_call 45; (with_reducible refine (rtimes_tms _ _ _).mono ?_); rintro e_ w_ ⟨rfl, rfl⟩) | fail)
  refine (c2 _).mono ?_
  rintro e w' ⟨rfl, rfl⟩
  go_wp2_with fail
  refine (awake2 _).mono ?_
  rintro e w1 ⟨rfl, hx⟩
  go_wp2
  go_ret
  exact ⟨rfl, hx⟩

set_option maxHeartbeats 1000000 in
theorem gfpowers_walk (a : Byte) (n : Int) (w0 : World) (h1 : -9223372036854775808 ≤ n) (h2 : n ≤ 9223372036854775807) : Calls Try.prog 13 #[v8 a, .int .i64 n] w0 fun e w' => e = .returned (.bool true) ∧ Ext w0 w' := by
  by_cases hb : 1000 < n
  · go_enter Try.func13, Try.ntmps13
    go_wp2
    go_ret
    exact ⟨rfl, Ext.refl _⟩
  · by_cases hn : n < 0
    · go_enter Try.func13, Try.ntmps13
      go_wp2_with (first | (go_at_call 48; (with_reducible refine (power_neg _ n _ hn).mono ?_); rintro e_ w_ ⟨rfl, rfl⟩) | (go_at_call 49; (with_reducible refine (rpower_neg _ n _ hn).mono ?_); rintro e_ w_ ⟨rfl, rfl⟩) | fail)
      refine (awake2 _).mono ?_
      rintro e w1 ⟨rfl, hx⟩
      go_wp2
      go_ret
      exact ⟨rfl, hx⟩
    · obtain ⟨N, rfl⟩ := Int.eq_ofNat_of_zero_le (show 0 ≤ n by omega)
      have hN : N ≤ 1000 := by omega
      go_enter Try.func13, Try.ntmps13
      go_wp2_with (first | (go_at_call 48; (with_reducible refine (power_any _ N _ (by omega)).mono ?_); rintro e_ w_ ⟨rfl, rfl⟩) | (go_at_call 49; (with_reducible refine (rpower_any _ N _ (by omega)).mono ?_); rintro e_ w_ ⟨rfl, rfl⟩) | fail)
      refine (awake2 _).mono ?_
      rintro e w1 ⟨rfl, hx⟩
      go_wp2
      go_ret
      exact ⟨rfl, hx⟩

set_option maxHeartbeats 1000000 in
theorem gfring_walk (a b c : Byte) (w0 : World) : Calls Try.prog 14 #[v8 a, v8 b, v8 c] w0 fun e w' => e = .returned (.bool true) ∧ Ext w0 w' := by
  have f1 : (tms a b == tms b a) = true := by rw [tms_comm a b]; simp
  have f2 : (tms (tms a b) c == tms a (tms b c)) = true := by rw [tms_assoc]; simp
  have f3 : (tms (a ^^^ b) c == tms a c ^^^ tms b c) = true := by rw [tms_xa]; simp
  have c1 := fun w => times_any a 1#8 w
  rw [tms_one] at c1
  go_enter Try.func14, Try.ntmps14
  go_wp2_with (first | (go_at_call 44; (with_reducible refine (times_any _ _ _).mono ?_); rintro e_ w_ ⟨rfl, rfl⟩) | fail)
  refine (c1 _).mono ?_
  rintro e w' ⟨rfl, rfl⟩
  go_wp2_with fail
  refine (awake2 _).mono ?_
  rintro e w1 ⟨rfl, hx⟩
  go_wp2
  go_ret
  exact ⟨rfl, hx⟩

set_option maxHeartbeats 1000000 in
theorem gffield_walk (a b : Byte) (w0 : World) : Calls Try.prog 15 #[v8 a, v8 b] w0 fun e w' => e = .returned (.bool true) ∧ Ext w0 w' := by
  have c0 := fun w => inverse_any 0#8 w
  rw [inv_zero] at c0
  by_cases ha : a = 0#8
  · subst ha
    have f1 : (tms 0#8 b == 0#8) = true := by rw [zero_tms]; simp
    go_enter Try.func15, Try.ntmps15
    go_wp2_with (first | (go_at_call 44; (with_reducible refine (times_any _ _ _).mono ?_); rintro e_ w_ ⟨rfl, rfl⟩) | fail)
    refine (c0 _).mono ?_
    rintro e w' ⟨rfl, rfl⟩
    go_wp2_with fail
    refine (awake2 _).mono ?_
    rintro e w1 ⟨rfl, hx⟩
    go_wp2
    go_ret
    exact ⟨rfl, hx⟩
  · have f2 : (a == 0#8) = false := by simpa using ha
    have f4 : (tms a (inv a) == 1#8) = true := by rw [inv_mul a ha]; simp
    have f5 : (inv (inv a) == a) = true := by rw [inv_inv]; simp
    have fz := tms_eq_zero a b
    by_cases hb : b = 0#8
    · subst hb
      have f1 : (tms a 0#8 == 0#8) = true := by rw [tms_zero]; simp
      clear fz ha
      go_enter Try.func15, Try.ntmps15
      go_wp2_with (first | (go_at_call 44; (with_reducible refine (times_any _ _ _).mono ?_); rintro e_ w_ ⟨rfl, rfl⟩) | (go_at_call 50; (with_reducible refine (inverse_any _ _).mono ?_); rintro e_ w_ ⟨rfl, rfl⟩) | fail)
      refine (awake2 _).mono ?_
      rintro e w1 ⟨rfl, hx⟩
      go_wp2
      go_ret
      exact ⟨rfl, hx⟩
    · have f3 : (b == 0#8) = false := by simpa using hb
      have f1 : (tms a b == 0#8) = false := by rw [beq_eq_false_iff_ne, ne_eq, fz]; simp [ha, hb]
      clear fz ha hb
      go_enter Try.func15, Try.ntmps15
      go_wp2_with (first | (go_at_call 44; (with_reducible refine (times_any _ _ _).mono ?_); rintro e_ w_ ⟨rfl, rfl⟩) | (go_at_call 50; (with_reducible refine (inverse_any _ _).mono ?_); rintro e_ w_ ⟨rfl, rfl⟩) | fail)
      refine (awake2 _).mono ?_
      rintro e w1 ⟨rfl, hx⟩
      go_wp2
      go_ret
      exact ⟨rfl, hx⟩

set_option maxHeartbeats 1000000 in
theorem gfrounds_walk (a : Byte) (n m : BitVec 16) (w0 : World) : Calls Try.prog 16 #[v8 a, v16 n, v16 m] w0 fun e w' => e = .returned (.bool true) ∧ Ext w0 w' := by
  have hn : n.toNat < 65536 := n.isLt
  have hm : m.toNat < 65536 := m.isLt
  have c1 := fun w => power_any a (n.toNat + m.toNat) w (by omega)
  have c2 := fun w => power_any a n.toNat w (by omega)
  have c3 := fun w => power_any a m.toNat w (by omega)
  have c4 : ∀ w, Calls Try.prog 48 #[v8 a, .int .i64 1] w fun e w' => e = .returned (v8 a) ∧ w = w' := fun w => by have := power_any a 1 w (by omega); rwa [show gpow a 1 = a from by rw [gpow, gpow, one_tms]] at this
  have f1 : (gpow a (n.toNat + m.toNat) != tms (gpow a n.toNat) (gpow a m.toNat)) = false := by rw [gpow_add]; simp
  simp only [Int.natCast_add] at c1
  by_cases ha : a = 0#8
  · subst ha
    have c0 : ∀ w, Calls Try.prog 48 #[.int .u8 0, .int .i64 0] w fun e w' => e = .returned (v8 1#8) ∧ w = w' := fun w => power_any 0#8 0 w (by omega)
    go_enter Try.func16, Try.ntmps16
    go_wp2_with (first | (go_at_call 48; (first | (with_reducible refine (c1 _).mono ?_) | (with_reducible refine (c2 _).mono ?_) | (with_reducible refine (c3 _).mono ?_) | (with_reducible refine (c4 _).mono ?_) | (with_reducible refine (c0 _).mono ?_)); rintro e w' ⟨rfl, rfl⟩) | (go_at_call 44; (with_reducible refine (times_any _ _ _).mono ?_); rintro e_ w_ ⟨rfl, rfl⟩) | fail)
    refine (awake2 _).mono ?_
    rintro e w1 ⟨rfl, hx⟩
    go_wp2
    go_ret
    exact ⟨rfl, hx⟩
  · have f2 : (a == 0#8) = false := by simpa using ha
    have c5 : ∀ w, Calls Try.prog 48 #[v8 a, .int .i64 255] w fun e w' => e = .returned (v8 1#8) ∧ w = w' := fun w => by have := power_any a 255 w (by omega); rwa [fermat a ha] at this
    have c6 := fun w => power_any a (255 + n.toNat) w (by omega)
    rw [gpow_add, fermat a ha, one_tms] at c6
    simp only [Int.natCast_add, Int.cast_ofNat_Int] at c6
    clear ha
    go_enter Try.func16, Try.ntmps16
    go_wp2_with (first | (go_at_call 48; (first | (with_reducible refine (c1 _).mono ?_) | (with_reducible refine (c2 _).mono ?_) | (with_reducible refine (c3 _).mono ?_) | (with_reducible refine (c4 _).mono ?_) | (with_reducible refine (c5 _).mono ?_) | (with_reducible refine (c6 _).mono ?_)); rintro e w' ⟨rfl, rfl⟩) | (go_at_call 44; (with_reducible refine (times_any _ _ _).mono ?_); rintro e_ w_ ⟨rfl, rfl⟩) | fail)
    refine (awake2 _).mono ?_
    rintro e w1 ⟨rfl, hx⟩
    go_wp2
    go_ret
    exact ⟨rfl, hx⟩

def dblN (a : Byte) : Nat → Byte
  | 0 => a
  | k + 1 => dbl (dblN a k)
theorem dblN_tms (a : Byte) : dblN a 8 = tms a 27#8 := by revert a; decide +kernel
theorem dbl_inj {a b : Byte} (h : dbl a = dbl b) : a = b := by
  rw [dbl_tms, dbl_tms] at h
  have := congrArg (tms (inv 2#8)) h
  rwa [← tms_assoc, ← tms_assoc, tms_comm (inv 2#8), inv_mul 2#8 (by decide), one_tms, one_tms] at this
set_option maxHeartbeats 1000000 in
theorem gfdoubles_walk (a b : Byte) (w0 : World) : Calls Try.prog 17 #[v8 a, v8 b] w0 fun e w' => e = .returned (.bool true) ∧ Ext w0 w' := by
  have c1 := fun w => times_any a 27#8 w
  have c2 := fun w => times_any 2#8 a w
  rw [← dblN_tms] at c1
  rw [← dbl_tms] at c2
  have f1 : (dbl a == dbl b) = (a == b) := by
    rw [Bool.eq_iff_iff, beq_iff_eq, beq_iff_eq]; exact ⟨dbl_inj, fun h => by rw [h]⟩
  go_enter Try.func17, Try.ntmps17
  go_wp2
  go_loop [5, 6] (fun c i => ∃ k : Nat, k ≤ 8 ∧ i = .int .i64 k ∧ c = v8 (dblN a k)) (fun _ i => 8 - (intOf i).toNat)
  case atStart => exact ⟨0, by omega, rfl, rfl⟩
  case round =>
    obtain ⟨k, hk, rfl, rfl⟩ := hrel
    by_cases hlt : k < 8
    · clear f1
      go_wp2_with (first | (go_at_call 46; (with_reducible refine (double_any _ _).mono ?_); rintro e_ w_ ⟨rfl, rfl⟩) | fail)
      go_round
      case rel => exact ⟨k + 1, by omega, by go_num, rfl⟩
      case measure => simp [intOf] <;> omega
    · obtain rfl : k = 8 := by omega
      generalize dblN a 8 = D at *
      go_wp2_with fail
      refine (c1 _).mono ?_
      rintro e w' ⟨rfl, rfl⟩
      go_wp2_with (first | (go_at_call 46; (with_reducible refine (double_any _ _).mono ?_); rintro e_ w_ ⟨rfl, rfl⟩) | fail)
      refine (c2 _).mono ?_
      rintro e w' ⟨rfl, rfl⟩
      go_wp2_with (first | (go_at_call 46; (with_reducible refine (double_any _ _).mono ?_); rintro e_ w_ ⟨rfl, rfl⟩) | fail)
      refine (awake2 _).mono ?_
      rintro e w1 ⟨rfl, hx⟩
      go_wp2
      go_ret
      exact ⟨rfl, hx⟩

theorem boxTab_nth (k : Nat) (h : k < 256) : nth boxTab k = bxTo (BitVec.ofNat 8 k) := by rw [boxTab, nth_tab h, bxTo_sbox]
theorem boxTab_length : boxTab.length = 256 := tab_length
set_option maxHeartbeats 2000000 in
theorem gfboxes_walk (a : Byte) (w0 : World) : Calls Try.prog 18 #[v8 a] w0 fun e w' => e = .returned (.bool true) ∧ Ext w0 w' := by
  have cb := fun w => rback_any boxTab a (bxBack a) boxTab_length (by rw [boxTab_nth _ (bxBack a).isLt]; simp [to_back]) (fun k hk e => by
    have hl : (bxBack a).toNat < 256 := (bxBack a).isLt
    rw [boxTab_nth k (by omega)] at e
    have := congrArg bxBack e
    rw [back_to] at this
    rw [← this] at hk; simp at hk; omega) w
  have cs := fun w => rbox_any a w
  rw [← bxTo_sbox] at cs
  have ct := fun w => rtable_any w
  generalize boxTab = T at *
  go_enter Try.func18, Try.ntmps18
  go_wp2_with fail
  refine (make_any _).mono ?_
  rintro e w1 ⟨v, rfl, ⟨g, rfl, hg⟩, hx⟩
  go_wp2_with (first | (go_at_call 50; (with_reducible refine (inverse_any _ _).mono ?_); rintro e_ w_ ⟨rfl, rfl⟩) | (go_at_call 52; (with_reducible refine (rinverse_any _ _).mono ?_); rintro e_ w_ ⟨rfl, rfl⟩) | (go_at_call 53; (with_reducible refine (to_any g _ _ hg).mono ?_); rintro e_ w_ ⟨rfl, rfl⟩) | (go_at_call 55; (with_reducible refine (back_any g _ _ hg).mono ?_); rintro e_ w_ ⟨rfl, rfl⟩) | (go_at_call 54; (with_reducible refine (cs _).mono ?_); rintro e_ w_ ⟨rfl, rfl⟩) | fail)
  refine (ct _).mono ?_
  rintro e w2 ⟨rfl, hx2⟩
  go_wp2_with fail
  refine (cb _).mono ?_
  rintro e w3 ⟨rfl, hx3⟩
  go_wp2_with (first | (go_at_call 53; (with_reducible refine (to_nil _ _).mono ?_); rintro e_ w_ ⟨rfl, rfl⟩) | (go_at_call 55; (with_reducible refine (back_nil _ _).mono ?_); rintro e_ w_ ⟨rfl, rfl⟩) | fail)
  refine (awake2 _).mono ?_
  rintro e w4 ⟨rfl, hx4⟩
  go_wp2
  go_ret
  exact ⟨rfl, ((hx.trans hx2).trans hx3).trans hx4⟩

set_option maxHeartbeats 2000000 in
theorem gfback_walk (a b : Byte) (w0 : World) : Calls Try.prog 19 #[v8 a, v8 b] w0 fun e w' => e = .returned (.bool true) ∧ Ext w0 w' := by
  have f1 : (bxBack (bxTo a) == a) = true := by rw [back_to]; simp
  have f2 : (bxTo (bxBack a) == a) = true := by rw [to_back]; simp
  have f3 : (bxTo a == bxTo b) = (a == b) := by rw [Bool.eq_iff_iff, beq_iff_eq, beq_iff_eq]; exact ⟨to_inj, fun h => by rw [h]⟩
  have f4 : (bxTo a != a) = true := by simpa using to_ne a
  have f5 : (bxTo a != ~~~a) = true := by simpa using to_not a
  go_enter Try.func19, Try.ntmps19
  go_wp2_with fail
  refine (make_any _).mono ?_
  rintro e w1 ⟨v, rfl, ⟨g, rfl, hg⟩, hx⟩
  go_wp2_with (first | (go_at_call 53; (with_reducible refine (to_any g _ _ hg).mono ?_); rintro e_ w_ ⟨rfl, rfl⟩) | (go_at_call 55; (with_reducible refine (back_any g _ _ hg).mono ?_); rintro e_ w_ ⟨rfl, rfl⟩) | fail)
  refine (awake2 _).mono ?_
  rintro e w4 ⟨rfl, hx4⟩
  go_wp2
  go_ret
  exact ⟨rfl, hx.trans hx4⟩

end Go.Proofs.Ytmapcfhhklapbaa
