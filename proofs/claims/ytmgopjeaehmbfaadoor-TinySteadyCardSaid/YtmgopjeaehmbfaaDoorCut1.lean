/-
  Layer 14: a cut of a message, in whole numbers that are written as floats. Conditions: those written in each theorem.
-/
import Derived.Test.YtmgopjeaehmbfaaDoorHash1
import Derived.Test.YtmgopjeaehmbfaaDoorBs
namespace Go.Proofs.YtmgopjeaehmbfaaDoor
open Go Go.RowKit
set_option maxRecDepth 100000
set_option linter.unusedVariables false
set_option linter.unusedSimpArgs false

/-- A whole number's bits as a float. -/
def flv (n : Nat) : Nat := floatOfInt .f64 (n : Int)
/-- The number n, as a float: it is at least 0, at most N, and itself as a whole number. -/
def flOk (x N : Nat) : Bool :=
  (FloatKind.f64.format.order (flv x) 0 == some .gt || FloatKind.f64.format.order (flv x) 0 == some .eq) &&
  (FloatKind.f64.format.order (flv x) (flv N) == some .lt || FloatKind.f64.format.order (flv x) (flv N) == some .eq) &&
  (floatToIntVal .f64 (flv x) .i64 == some (x : Int)) &&
  (FloatKind.f64.format.order (flv x) (flv x) == some .eq)
theorem fl_core : ((List.range 269).all fun n => flOk n (n + 32) && flOk (n + 16) (n + 32) && flOk 16 (n + 32)) = true := by decide +kernel
theorem fl_tiny : ((List.range 32).all fun n => flOk 0 (2 * n) && flOk n (2 * n) && flOk 0 32 && flOk n 32) = true := by decide +kernel
/-- The bits b are the number n, which is at most N, whose bits are B. -/
structure FlIn (b n B N : Nat) : Prop where
  ge : (FloatKind.f64.format.order b 0 == some .gt || FloatKind.f64.format.order b 0 == some .eq) = true
  le : (FloatKind.f64.format.order b B == some .lt || FloatKind.f64.format.order b B == some .eq) = true
  int : floatToIntVal .f64 b .i64 = some (n : Int)
  eq : (FloatKind.f64.format.order b b == some .eq) = true
  of : floatOfInt .f64 (n : Int) = b
  up : floatOfInt .f64 (N : Int) = B
theorem flIn_of {x N : Nat} (h : flOk x N = true) : FlIn (flv x) x (flv N) N := by
  simp only [flOk, Bool.and_eq_true] at h
  exact ⟨h.1.1.1, h.1.1.2, by simpa using h.1.2, h.2, rfl, rfl⟩
theorem fl_core_at (n : Nat) (h1 : 32 ≤ n) (h2 : n ≤ 300) : FlIn (flv (n - 32)) (n - 32) (flv n) n ∧ FlIn (flv (n - 16)) (n - 16) (flv n) n ∧ FlIn (flv 16) 16 (flv n) n := by
  have := List.all_eq_true.1 fl_core (n - 32) (by rw [List.mem_range]; omega)
  simp only [Bool.and_eq_true] at this
  rw [show n - 32 + 32 = n by omega, show n - 32 + 16 = n - 16 by omega] at this
  exact ⟨flIn_of this.1.1, flIn_of this.1.2, flIn_of this.2⟩
theorem fl_tiny_at (n : Nat) (h : n ≤ 31) : FlIn (flv 0) 0 (flv (2 * n)) (2 * n) ∧ FlIn (flv n) n (flv (2 * n)) (2 * n) ∧ FlIn (flv 0) 0 (flv 32) 32 ∧ FlIn (flv n) n (flv 32) 32 := by
  have := List.all_eq_true.1 fl_tiny n (by rw [List.mem_range]; omega)
  simp only [Bool.and_eq_true] at this
  exact ⟨flIn_of this.1.1.1, flIn_of this.1.1.2, flIn_of this.1.2, flIn_of this.2⟩
theorem conv_fi {b n : Nat} (h : floatToIntVal .f64 b .i64 = some (n : Int)) (w : World) : (convert 74 3 (.float .f64 b)).run Tryd.prog w = .ok (.int .i64 (n : Int)) w := run_convert_float_int w _ _ _ _ _ _ (by kernel_rfl) (by kernel_rfl) h
theorem conv_if {b n : Nat} (h : floatOfInt .f64 (n : Int) = b) (w : World) : (convert 3 74 (.int .i64 (n : Int))).run Tryd.prog w = .ok (.float .f64 b) w := h ▸ run_convert_int_float w _ _ _ _ _ (by kernel_rfl) (by kernel_rfl)

set_option maxHeartbeats 2000000 in
theorem fits_any (b n B N g : Nat) (h : FlIn b n B N) (w : World) (hc : w.cell? ⟨g, 0, none⟩ = some (.int .i64 (N : Int))) : Calls Tryd.prog 102 #[.float .f64 b, .pointer (some ⟨g, 0, none⟩)] w fun e w' => e = .returned (.bool true) ∧ w' = w := by
  have h1 := h.ge
  have h2 := h.le
  have h4 := h.eq
  have h3 := conv_fi h.int
  have h5 := conv_if h.of
  have h6 := conv_if h.up
  clear h
  go_enter Tryd.func102, Tryd.ntmps102
  go_wp2
  go_ret
  exact ⟨rfl, rfl⟩

theorem own_cell {w0 w : World} {L : List Blk} {g : Nat} {t : TypeId} {v : Value} (hm : Own w0 w L) (hh : Has L ⟨g, t, [v]⟩) : w.cell? ⟨g, 0, none⟩ = some v := row_cell (hm.row hh) 0
set_option maxHeartbeats 4000000 in
theorem whole_any (b n c m B N : Nat) (hn : FlIn b n B N) (hk : FlIn c m B N) (h : n + m ≤ N) (hN : N ≤ 9223372036854775807) (w0 : World) : Calls Tryd.prog 76 #[.complex .f64 b c, .int .i64 (N : Int)] w0 fun e w' => e = .returned (.tuple #[.int .i64 (n : Int), .int .i64 (m : Int), .bool true]) ∧ Ext w0 w' := by
  have hm := Own.start w0
  have F1 := Lib.hid fun g w hc => fits_any b n B N g hn w hc
  have F2 := Lib.hid fun g w hc => fits_any c m B N g hk w hc
  have h3 := conv_fi hn.int
  have h4 := conv_fi hk.int
  have h5 : decide ((N : Int) - (n : Int) < (m : Int)) = false := decide_eq_false (by omega)
  have h6 : ¬ ((N : Int) - (n : Int) < (m : Int)) := by omega
  have h7 : (N : Int) - (n : Int) ≤ 9223372036854775807 := by omega
  have h8 : -9223372036854775808 ≤ (N : Int) - (n : Int) := by omega
  clear hn hk
  go_enter Tryd.func76, Tryd.ntmps76
  go_wp2_with (first | (go_at_call 102; have hc_ := own_cell (g := g1) (t := 3) (v := .int .i64 (N : Int)) hm Has.hd; (with_reducible refine (F1.out g1 _ hc_).mono ?_); rintro e_ w_ ⟨rfl, rfl⟩; clear hc_) | (go_at_call 102; have hc_ := own_cell (g := g1) (t := 3) (v := .int .i64 (N : Int)) hm Has.hd; (with_reducible refine (F2.out g1 _ hc_).mono ?_); rintro e_ w_ ⟨rfl, rfl⟩; clear hc_) | ((with_reducible show wpList _ _ _ (Oper.mk _ (Op.load _ _) _ _ _ _ :: _) _ _); first | ((with_reducible apply wq_ld1 hm); (exact rfl); infer_instance; (exact rfl); (focus ((repeat (first | exact .hd | assumption | apply Has.tl | apply Has.app)); done)); (exact rfl)) | fail) | ((first | ((with_reducible show wpList _ _ _ (Oper.mk _ (Op.box _ _) _ _ _ _ :: _) _ _); first | ((with_reducible apply wq_box1 hm); (exact rfl); (exact rfl); (exact rfl)) | fail)); clear hm; (first | (have hx_ := g1; clear hx_; (first | (have hx_ := g2; clear hx_; (first | (have hx_ := g3; clear hx_; (first | (have hx_ := g4; clear hx_; (first | (have hx_ := g5; clear hx_; (first | (have hx_ := g6; clear hx_; (first | (have hx_ := g7; clear hx_; (first | (have hx_ := g8; clear hx_; (first | (have hx_ := g9; clear hx_; intro g10) | intro g9)) | intro g8)) | intro g7)) | intro g6)) | intro g5)) | intro g4)) | intro g3)) | intro g2)) | intro g1); intro w hm) | fail)
  go_ret3
  exact ⟨rfl, hm.x⟩

theorem eq_nil8 (q : Option Addr) (n c : Nat) (w : World) : (binOp .eql 22 (.slice q n c) (.slice none 0 0)).run Tryd.prog w = .ok (.bool q.isNone) w := by
  have h := run_equal_slice_nil (P := Tryd.prog) (w := w) 22 5 q n c (by kernel_rfl)
  simp [binOp, h]
set_option maxHeartbeats 4000000 in
/-- A copy of bytes. -/
theorem clone_any (l : List Byte) (p : Option Addr) (c : Nat) (w0 : World) (hl : RdB w0 p l) (hb : l.length ≤ 70368744177000) : GivesR Tryd.prog 74 #[.slice p l.length c] w0 (BytesS l) := by
  unfold GivesR
  have hm := Own.start w0
  cases p with
  | none =>
    have e1 := fun c w => eq_nil8 none 0 c w
    obtain rfl : l = [] := by
      rcases Nat.eq_zero_or_pos l.length with h | h
      · exact List.length_eq_zero_iff.1 h
      · have := hl.1 h; simp at this
    clear hl
    simp only [List.length_nil]
    go_enter Tryd.func74, Tryd.ntmps74
    go_wp2
    go_ret
    exact ⟨_, rfl, ⟨none, 0, rfl, Nat.le_refl _, RdB.nil _ _⟩, hm.x⟩
  | some a =>
    have HL := Lib.hid hl
    have FIT := Lib.hid (show (0 + l.length) * (1 + 1) ≤ 140737488355328 by omega)
    have LY := Lib.hid (show (l.map v8).length = l.length * 1 by simp)
    clear hl
    have e1 := fun n c w => eq_nil8 (some a) n c w
    go_enter Tryd.func74, Tryd.ntmps74
    go_wp2_with (first | ((with_reducible apply wq_bs0 bs0_b hm); exact rfl; clear hm; intro gz w hm) | ((with_reducible show wpList _ _ _ (Oper.mk _ (Op.call _) _ _ _ _ :: _) _ _); refine wplO_app (M := [⟨gz, 5, []⟩]) (R := []) (ds := l.map v8) hm (slo_room0 gz _ 1) rfl rfl rfl rfl Tryd.underlying22 LY.out (cellsB (HL.out.ext hm.x)) (one_map _) FIT.out ?_; clear hm; intro v1 w M1 hm hs1; obtain ⟨p_v1, c_v1, rfl⟩ := hs1.form; simp only [Nat.zero_add, List.nil_append] at hs1 ⊢) | fail)
    go_ret
    have hr := slo_bytes hs1 hm
    exact ⟨_, rfl, ⟨_, _, rfl, hr.2.2, hr.1⟩, hm.x⟩

set_option maxHeartbeats 4000000 in
/-- The bytes of a cut. -/
theorem of_any (l : List Byte) (p : Option Addr) (d : Nat) (b n c k B : Nat) (hn : FlIn b n B l.length) (hk : FlIn c k B l.length) (h : n + k ≤ l.length) (hk0 : 0 < k) (hd : l.length ≤ d) (hb : l.length ≤ 70368744177000) (w0 : World) (hl : RdB w0 p l) :
    Calls Tryd.prog 123 #[.slice p l.length d, .complex .f64 b c] w0 fun e w' => ∃ v, e = .returned (.tuple #[v, .bool true]) ∧ BytesS ((l.drop n).take k) v w' ∧ Ext w0 w' := by
  have hm := Own.start w0
  obtain ⟨a, rfl⟩ := Option.isSome_iff_exists.1 (hl.1 (by omega))
  have W1 := Lib.hid fun w => whole_any b n c k B l.length hn hk h (by omega) w
  have lT : ((l.drop n).take k).length = k := by rw [List.length_take, List.length_drop]; omega
  have C1 := Lib.hid fun (w : World) (hx : Ext w0 w) (e : Nat) => show GivesR Tryd.prog 74 #[.slice (some (a.add n)) k e] w (BytesS ((l.drop n).take k)) from by
    have := clone_any ((l.drop n).take k) (some (a.add n)) e w ((hl.sub n k h hk0).ext hx) (by omega)
    rwa [lT] at this
  generalize (l.drop n).take k = T at *
  have a1 : (n : Int) + (k : Int) ≤ 9223372036854775807 := by omega
  have a2 : (0 : Int) ≤ (n : Int) + (k : Int) := by omega
  have a3 : (n : Int) ≤ (n : Int) + (k : Int) := by omega
  have a4 : (n : Int) + (k : Int) ≤ (d : Int) := by omega
  have a5 : ¬ d = n := by omega
  clear hn hk hl
  go_enter Tryd.func123, Tryd.ntmps123
  go_wp2_with (first | (go_at_call 76; (with_reducible refine (W1.out _).mono ?_); rintro e_ w ⟨rfl, hx_⟩; replace hm := hm.ext hx_; clear hx_) | (go_at_call 74; (with_reducible refine (C1.out _ hm.x _).mono ?_); rintro e_ w ⟨v_, rfl, hv_, hx_⟩; replace hm := hm.ext hx_; clear hx_) | fail)
  go_ret2
  exact ⟨_, rfl, hv_, hm.x⟩

end Go.Proofs.YtmgopjeaehmbfaaDoor
