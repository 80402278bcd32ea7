/-
  Layer 19: a number as a block; how many rounds; half bytes. Conditions: those written in each theorem.
-/
import Derived.Test.YtmgopjeaehmbfaaDoorCut1
import Derived.Test.YtmgopjeaehmbfaaDoorPlusT
import Derived.Test.YtmgopjeaehmbfaaDoorTinyp
namespace Go.Proofs.YtmgopjeaehmbfaaDoor
open Go Go.RowKit
set_option maxRecDepth 100000
set_option linter.unusedVariables false
set_option linter.unusedSimpArgs false

/-- A block with the first j bytes of a number, the last of them first. -/
def cntG (P : List Byte) (j : Nat) : List Byte := tab 16 fun q => if 16 - j ≤ q then nth P (15 - q) else 0#8
theorem cntG_length (P : List Byte) (j : Nat) : (cntG P j).length = 16 := tab_length
theorem cntG_zero (P : List Byte) : cntG P 0 = zer 16 := nth_ext (by rw [cntG_length, zer_length]) fun i hi => by
  rw [cntG_length] at hi
  rw [cntG, nth_tab hi, if_neg (by omega), zer, nth_tab hi]; rfl
theorem cntG_step (P : List Byte) (j : Nat) (hj : j < 8) : setN (cntG P j) (15 - j) (nth P j) = cntG P (j + 1) := nth_ext (by rw [setN_length, cntG_length, cntG_length]) fun i hi => by
  rw [setN_length, cntG_length] at hi
  rw [nth_set (by rw [cntG_length]; exact hi), cntG, cntG, nth_tab hi, nth_tab hi]
  by_cases e : 15 - j = i
  · rw [if_pos e, if_pos (by omega), show 15 - i = j by omega]
  · rw [if_neg e]
    by_cases e2 : 16 - j ≤ i
    · rw [if_pos e2, if_pos (by omega)]
    · rw [if_neg e2, if_neg (by omega)]
theorem cntG_all (n : Nat) : cntG (putL (BitVec.ofNat 64 n) 8) 8 = cntB n := rfl
set_option maxHeartbeats 2000000 in
theorem tcounted_any (n : Nat) (hn : n ≤ 9223372036854775807) (w0 : World) : Gives Tryd.prog 77 #[.int .i64 n] w0 (A8 (cntB n)) := by
  unfold Gives
  have hm := Own.start w0
  have cp := fun w => putlong_any' (BitVec.ofNat 64 n) w
  rw [← natv64 (show n < 18446744073709551616 by omega)] at cp
  have CP := Lib.hid cp
  have lP : (putL (BitVec.ofNat 64 n) 8).length = 8 := putL_length _ _
  have E0 := Lib.hid (cntG_zero (putL (BitVec.ofNat 64 n) 8))
  have ES := Lib.hid (cntG_step (putL (BitVec.ofNat 64 n) 8))
  have EA := Lib.hid (cntG_all n)
  have lC := Lib.hid (cntG_length (putL (BitVec.ofNat 64 n) 8))
  have lR := cntB_length n
  clear cp
  generalize putL (BitVec.ofNat 64 n) 8 = P at *
  generalize cntB n = D at *
  go_enter Tryd.func77, Tryd.ntmps77
  go_wp2_with (first | (go_at_call 99; (with_reducible refine (CP.out _).mono ?_); rintro e_ w ⟨rfl, hx_⟩; replace hm := hm.ext hx_; clear hx_) | ((first | ((with_reducible show wpList _ _ _ (Oper.mk _ (Op.alloc _) _ _ _ _ :: _) _ _); first | ((with_reducible apply wq_new hm); (exact rfl); infer_instance) | fail)); clear hm; (first | (have hx_ := g1; clear hx_; (first | (have hx_ := g2; clear hx_; (first | (have hx_ := g3; clear hx_; (first | (have hx_ := g4; clear hx_; (first | (have hx_ := g5; clear hx_; (first | (have hx_ := g6; clear hx_; (first | (have hx_ := g7; clear hx_; (first | (have hx_ := g8; clear hx_; (first | (have hx_ := g9; clear hx_; intro g10) | intro g9)) | intro g8)) | intro g7)) | intro g6)) | intro g5)) | intro g4)) | intro g3)) | intro g2)) | intro g1); intro w hm) | fail)
  rw [← E0.out] at hm
  go_loopw [9] (fun i wr => ∃ j : Nat, j ≤ 8 ∧ i = .int .i64 j ∧ Own w0 wr [⟨g2, 27, (cntG P j).map v8⟩, ⟨g1, 27, (cntG P 0).map v8⟩]) (fun i _ => 8 - (intOf i).toNat)
  case atStart => exact ⟨0, by omega, rfl, by rw [E0.out] at hm ⊢; exact hm⟩
  case round =>
    obtain ⟨j, hj, rfl, hm⟩ := hrel
    have lj := lC.out j
    have l0 := lC.out 0
    by_cases hjl : j < 8
    · have hj1 : decide ((j : Int) < 8) = true := decide_eq_true (by omega)
      have hj2 : (j : Int) < 8 := by omega
      obtain ⟨k, hk⟩ : ∃ k : Nat, k = 15 - j := ⟨_, rfl⟩
      have hk1 : (15 : Int) - (j : Int) = (k : Int) := by omega
      have hk2 : k < 16 := by omega
      have es := ES.out j hjl
      rw [← hk] at es
      have HES := Lib.hid es
      clear es hk
      generalize hC2 : cntG P (j + 1) = C2 at *
      generalize cntG P 0 = C0 at *
      generalize cntG P j = C at *
      have HC2 := Lib.hid hC2
      clear hC2
      go_wp2_with (first | ((with_reducible apply wq_idx (l := P) (k := j) Tryd.underlying142); infer_instance; exact rfl; exact rfl; exact rfl; exact lP; exact hjl) | ((((with_reducible show wpList _ _ _ (Oper.mk _ (Op.store _ _ _) _ _ _ _ :: _) _ _); first | ((with_reducible apply wq_stv hm); (exact rfl); infer_instance; (exact rfl); (focus ((repeat (first | exact .hd | assumption | apply Swap.tl | apply Swap.app)); done)); infer_instance; (exact rfl); (focus (first | omega | (simp; omega) | (refine Nat.lt_of_lt_of_le (BitVec.isLt _) ?_; first | omega | (simp; done) | (simp; omega) | fail) | fail))) | fail)); clear hm; intro w hm) | fail)
      go_roundw
      case rel =>
        rw [HES.out] at hm
        exact ⟨j + 1, by omega, by go_num, by rw [HC2.out]; exact hm⟩
      case measure => simp [intOf] <;> omega
    · obtain rfl : j = 8 := by omega
      have hj1 : decide (((8 : Nat) : Int) < 8) = false := decide_eq_false (by omega)
      rw [EA.out] at hm lj
      generalize cntG P 0 = C0 at *
      go_wp2_with (first | ((with_reducible show wpList _ _ _ (Oper.mk _ (Op.load _ _) _ _ _ _ :: _) _ _); first | ((with_reducible apply wq_ldW hm); (exact rfl); infer_instance; (exact rfl); (focus ((repeat (first | exact .hd | assumption | apply Has.tl | apply Has.app)); done)); (focus (first | rfl | omega | (simp; done) | (simp; omega) | fail))) | fail) | ((((with_reducible show wpList _ _ _ (Oper.mk _ (Op.store _ _ _) _ _ _ _ :: _) _ _); first | ((with_reducible apply wq_stW hm); (exact rfl); infer_instance; (exact rfl); (exact rfl); (focus ((repeat (first | exact .hd | assumption | apply Swap.tl | apply Swap.app)); done)); (focus (first | rfl | omega | (simp; done) | (simp; omega) | fail)); (focus (first | rfl | omega | (simp; done) | (simp; omega) | fail)); (focus (first | exact one_map _ | (simp [one8, one32, one64]; done) | fail))) | fail)); clear hm; intro w hm) | fail)
      refine ret_own hm rfl rfl (by infer_instance) (by repeat (first | exact Has.hd | assumption | apply Has.tl | apply Has.app)) (by first | rfl | omega | (simp only [zeros_length, zer_length, tab_length, part_length, setN_length, List.length_map, List.length_cons, List.length_nil, List.length_append, List.length_take, List.length_drop, List.length_replicate, blk_length, putL_length] <;> omega) | fail) rfl ⟨rfl, hm.x⟩

/-- How many rounds. -/
def roundsI (n : Int) : Int := if n < 1 ∨ 31 < n then 0 else if n = 1 then 24 else if n = 2 then 16 else if n < 16 then 10 else 8
theorem rounds_any (n : Int) (w0 : World) : Calls Tryd.prog 45 #[.int .i64 n] w0 fun e w' => e = .returned (.int .i64 (roundsI n)) ∧ w' = w0 := by
  by_cases h1 : n < 1
  · have a1 : decide (n < 1) = true := decide_eq_true h1
    have e : roundsI n = 0 := if_pos (.inl h1)
    rw [e]
    go_enter Tryd.func45, Tryd.ntmps45
    go_wp2
    go_ret
    exact ⟨rfl, rfl⟩
  have a1 : decide (n < 1) = false := decide_eq_false h1
  by_cases h2 : 31 < n
  · have a2 : decide (31 < n) = true := decide_eq_true h2
    have e : roundsI n = 0 := if_pos (.inr h2)
    rw [e]
    go_enter Tryd.func45, Tryd.ntmps45
    go_wp2
    go_ret
    exact ⟨rfl, rfl⟩
  have a2 : decide (31 < n) = false := decide_eq_false h2
  have e0 : roundsI n = if n = 1 then 24 else if n = 2 then 16 else if n < 16 then 10 else 8 := if_neg (by omega)
  by_cases h3 : n = 1
  · subst h3
    have e : roundsI 1 = 24 := by decide
    rw [e]
    clear h1 h2 a1 a2 e0
    go_enter Tryd.func45, Tryd.ntmps45
    go_wp2
    go_ret
    exact ⟨rfl, rfl⟩
  by_cases h4 : n = 2
  · subst h4
    have e : roundsI 2 = 16 := by decide
    rw [e]
    clear h1 h2 h3 a1 a2 e0
    go_enter Tryd.func45, Tryd.ntmps45
    go_wp2
    go_ret
    exact ⟨rfl, rfl⟩
  rw [if_neg h3, if_neg h4] at e0
  have a3 : (n == 1) = false := by rw [beq_eq_false_iff_ne]; exact h3
  have a4 : (n == 2) = false := by rw [beq_eq_false_iff_ne]; exact h4
  by_cases h5 : n < 16
  · have a5 : decide (n < 16) = true := decide_eq_true h5
    rw [if_pos h5] at e0
    rw [e0]
    go_enter Tryd.func45, Tryd.ntmps45
    go_wp2
    go_ret
    exact ⟨rfl, rfl⟩
  · have a5 : decide (n < 16) = false := decide_eq_false h5
    rw [if_neg h5] at e0
    rw [e0]
    go_enter Tryd.func45, Tryd.ntmps45
    go_wp2
    go_ret
    exact ⟨rfl, rfl⟩

set_option maxHeartbeats 4000000 in
/-- A copy of bytes, in blocks of its own. -/
theorem clone_sl (l : List Byte) (p : Option Addr) (c : Nat) (w0 : World) (hl : RdB w0 p l) (hb : l.length ≤ 70368744177000) : Calls Tryd.prog 74 #[.slice p l.length c] w0 fun e w' => ∃ v M, e = .returned v ∧ SlO M 5 1 v l.length (l.map v8) ∧ Own w0 w' M := by
  have hm := Own.start w0
  cases p with
  | none =>
    have e1 := fun c w => eq_nil8 none 0 c w
    obtain rfl : l = [] := by
      rcases Nat.eq_zero_or_pos l.length with h | h
      · exact List.length_eq_zero_iff.1 h
      · have := hl.1 h; simp at this
    clear hl
    simp only [List.length_nil]
    go_enter Tryd.func74, Tryd.ntmps74
    go_wp2
    go_ret
    exact ⟨_, [], rfl, SlO.nil _ _, hm⟩
  | some a =>
    have HL := Lib.hid hl
    have FIT := Lib.hid (show (0 + l.length) * (1 + 1) ≤ 140737488355328 by omega)
    have LY := Lib.hid (show (l.map v8).length = l.length * 1 by simp)
    clear hl
    have e1 := fun n c w => eq_nil8 (some a) n c w
    go_enter Tryd.func74, Tryd.ntmps74
    go_wp2_with (first | ((with_reducible apply wq_bs0 bs0_b hm); exact rfl; clear hm; intro gz w hm) | ((with_reducible show wpList _ _ _ (Oper.mk _ (Op.call _) _ _ _ _ :: _) _ _); refine wplO_app (M := [⟨gz, 5, []⟩]) (R := []) (ds := l.map v8) hm (slo_room0 gz _ 1) rfl rfl rfl rfl Tryd.underlying22 LY.out (cellsB (HL.out.ext hm.x)) (one_map _) FIT.out ?_; clear hm; intro v1 w M1 hm hs1; obtain ⟨p_v1, c_v1, rfl⟩ := hs1.form; simp only [Nat.zero_add, List.nil_append] at hs1 ⊢) | fail)
    go_ret
    exact ⟨_, M1, rfl, hs1, by simpa using hm⟩

end Go.Proofs.YtmgopjeaehmbfaaDoor
