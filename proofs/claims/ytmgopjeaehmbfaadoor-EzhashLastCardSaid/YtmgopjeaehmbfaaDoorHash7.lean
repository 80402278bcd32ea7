/-
  Layer 16: a key's parts, made. Conditions: those written in each theorem.
-/
import Derived.Test.YtmgopjeaehmbfaaDoorEzr
namespace Go.Proofs.YtmgopjeaehmbfaaDoor
open Go Go.RowKit
set_option maxRecDepth 100000
set_option linter.unusedVariables false
set_option linter.unusedSimpArgs false

set_option maxHeartbeats 2000000 in
theorem keys16_ok (key : List Byte) (p : Option Addr) (c : Nat) (w0 : World) (h : rightL key = true) (hkc : key.length ≤ c) (hk : RdB w0 p key) (hc : Coef w0) (hcb : CoefB w0) :
    Calls Tryd.prog 20 #[.slice p key.length c] w0 fun e w' => ∃ g gt gb, e = .returned (.tuple #[.pointer (some ⟨g, 0, none⟩), .bool true]) ∧ w0.heap.size ≤ g ∧ w0.heap.size ≤ gt ∧ gt ≠ g ∧ Row w' g 96 (kcells gt (keyOf key)) ∧ Row w' gt 122 (tcells gb mixT unmixT) ∧ Ext w0 w' := by
  have HC := Lib.hid hc
  have HB := Lib.hid hcb
  have HK := Lib.hid hk
  have h' : 0 < key.length ∧ key.length ≤ 128 := by simpa [rightL] using h
  have H := Lib.hid h'
  clear hc hcb hk h h'
  go_enter Tryd.func20, Tryd.ntmps20
  go_wp2_with fail
  refine (make_new _).mono ?_
  rintro e w1 ⟨gb, rfl, _, hb, hx0⟩
  go_wp2_with fail
  refine (tnew_new gb _ hb (HC.out.ext hx0)).mono ?_
  rintro e w2 ⟨gt, rfl, hgt, hr, hx1⟩
  have hx := hx0.trans hx1
  go_wp2_with fail
  refine (ext_ok gt gb key p c w2 H.out.1 H.out.2 hkc (HK.out.ext hx) (HB.out.ext hx) hr).mono ?_
  rintro e w3 ⟨g, rfl, hg, hkr, hx2⟩
  go_wp2
  go_ret2
  exact ⟨g, gt, gb, rfl, Nat.le_trans hx.size hg, Nat.le_trans hx0.size hgt, Nat.ne_of_lt (Nat.lt_of_lt_of_le (row_lt hr) hg), hkr, row_ext hr hx2, hx.trans hx2⟩
theorem keys16_bad (key : List Byte) (p : Option Addr) (c : Nat) (w0 : World) (h : rightL key = false) (hc : Coef w0) :
    Calls Tryd.prog 20 #[.slice p key.length c] w0 fun e w' => e = .returned (.tuple #[.pointer none, .bool false]) ∧ Ext w0 w' := by
  have HC := Lib.hid hc
  have h' : key.length = 0 ∨ 128 < key.length := by
    simp only [rightL, Bool.and_eq_false_iff, decide_eq_false_iff_not] at h; omega
  have H := Lib.hid h'
  clear hc h h'
  go_enter Tryd.func20, Tryd.ntmps20
  go_wp2_with fail
  refine (make_new _).mono ?_
  rintro e w1 ⟨gb, rfl, _, hb, hx0⟩
  go_wp2_with fail
  refine (tnew_new gb _ hb (HC.out.ext hx0)).mono ?_
  rintro e w2 ⟨gt, rfl, hgt, hr, hx1⟩
  have hx := hx0.trans hx1
  go_wp2_with fail
  refine (ext_bad gt p key.length c w2 H.out).mono ?_
  rintro e w3 ⟨rfl, rfl⟩
  go_wp2
  go_ret2
  exact ⟨rfl, hx⟩

end Go.Proofs.YtmgopjeaehmbfaaDoor
