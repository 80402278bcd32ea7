/-
  Layer 6: the statement on sums. Conditions: the program's first numbers and rows lie as its text lays them.
-/
import Derived.Test.YtalcgmhdgegebaaDoorLawBlake1
namespace Go.Proofs.YtalcgmhdgegebaaDoor
open Go Go.RowKit
set_option maxRecDepth 100000
set_option linter.unusedVariables false
set_option linter.unusedSimpArgs false

theorem bsum_size (size : Int) (p q : Option Addr) (n c m d : Nat) (w : World) (hs : size < 1 ∨ 64 < size) : Calls Tryd.prog 29 #[.int .i64 size, .slice p n c, .slice q m d] w fun e w' => e = .returned (.tuple #[.slice none 0 0, .int .i64 4]) ∧ w = w' := by
  have C := Lib.hid (new_size size p n c w hs)
  go_enter Tryd.func29, Tryd.ntmps29
  go_wp2_with fail
  refine C.out.mono ?_
  rintro e w' ⟨rfl, rfl⟩
  go_wp2
  go_ret2
  exact ⟨rfl, rfl⟩
theorem bsum_key (size : Int) (p q : Option Addr) (n c m d : Nat) (w : World) (h0 : 1 ≤ size) (h1 : size ≤ 64) (hn : 64 < n) : Calls Tryd.prog 29 #[.int .i64 size, .slice p n c, .slice q m d] w fun e w' => e = .returned (.tuple #[.slice none 0 0, .int .i64 2]) ∧ w = w' := by
  have C := Lib.hid (new_key size p n c w h0 h1 hn)
  go_enter Tryd.func29, Tryd.ntmps29
  go_wp2_with fail
  refine C.out.mono ?_
  rintro e w' ⟨rfl, rfl⟩
  go_wp2
  go_ret2
  exact ⟨rfl, rfl⟩
theorem conv_nil (w : World) : (convert 53 9 (.slice none 0 0)).run Tryd.prog w = .ok (.string (bstr [])) w := conv_str none [] 0 w (RdB.nil _ _)

set_option maxHeartbeats 4000000 in
theorem sums_walk (size : Int) (key : List Byte) (p : Option Addr) (c : Nat) (b : List Byte) (q : Option Addr) (d : Nat) (w0 : World) (hs0 : -9223372036854775808 ≤ size) (hs1 : size ≤ 9223372036854775807) (hk : RdB w0 p key) (hkc : key.length ≤ c) (hkm : key.length ≤ maxLen) (hb : RdB w0 q b) (hbd : b.length ≤ d) (hbm : b.length ≤ maxLen) (hc : CoefB w0) :
    Calls Tryd.prog 10 #[.int .i64 size, .slice p key.length c, .slice q b.length d] w0 fun e w' => e = .returned (.bool true) ∧ Ext w0 w' := by
  have HC := Lib.hid hc
  have HK := Lib.hid hk
  have HB := Lib.hid hb
  clear hc hk hb
  by_cases hn : b.length ≤ 600
  · have n1 : decide ((600 : Int) < (b.length : Int)) = false := decide_eq_false (by omega)
    have n2 : ¬ (600 : Int) < (b.length : Int) := by omega
    by_cases hk100 : key.length ≤ 100
    · have k1 : decide ((100 : Int) < (key.length : Int)) = false := decide_eq_false (by omega)
      have k2 : ¬ (100 : Int) < (key.length : Int) := by omega
      by_cases hsz : size < 1 ∨ 64 < size
      · have C1 := Lib.hid fun w => bsum_size size p q key.length c b.length d w hsz
        have C2 := Lib.hid fun w => new_size size p key.length c w hsz
        have C3 := Lib.hid fun w => rsum_size size p q key.length c b.length d w hsz
        clear hsz
        go_enter Tryd.func10, Tryd.ntmps10
        go_wp2_with fail
        refine (C1.out _).mono ?_
        rintro e w ⟨rfl, rfl⟩
        go_wp2_with fail
        refine (C2.out _).mono ?_
        rintro e w ⟨rfl, rfl⟩
        go_wp2_with fail
        refine (C3.out _).mono ?_
        rintro e w ⟨rfl, rfl⟩
        have s1 := conv_nil w0
        go_wp2_with fail
        refine (awake6 _ HC.out).mono ?_
        rintro e w ⟨rfl, hx⟩
        go_wp2
        go_ret
        exact ⟨rfl, hx⟩
      · by_cases hk64 : key.length ≤ 64
        · obtain ⟨sz, rfl⟩ : ∃ sz : Nat, size = sz := ⟨size.toNat, by omega⟩
          have C1 := Lib.hid fun w hx h1 h2 => bsum_ok sz key p c b q d (by omega) (by omega) hk64 (by omega) w w [] hx (fun w' M h => RdB.ext h1 h.x) (fun w' M h => RdB.ext h2 h.x) (Own.start w)
          have C2 := Lib.hid fun w hx h1 => new_ok sz key p c (by omega) (by omega) hk64 w w [] hx (fun w' M h => RdB.ext h1 h.x) (Own.start w)
          have C3 := Lib.hid fun w h1 h2 => rsum_ok sz key p c b q d (by omega) (by omega) hk64 hkc (by omega) w h1 h2
          generalize sumL sz key b = S at *
          clear hsz
          go_enter Tryd.func10, Tryd.ntmps10
          go_wp2_with fail
          refine (C1.out _ HC.out HK.out HB.out).mono ?_
          rintro e w1 ⟨x, rfl, ⟨ps, cs, rfl, hcs, hrs⟩, M, hm1⟩
          have X1 := Lib.hid hm1.x
          have R1 := Lib.hid hrs
          clear hm1 hrs
          go_wp2_with fail
          refine (C2.out _ (HC.out.ext X1.out) (HK.out.ext X1.out)).mono ?_
          rintro e w2 ⟨g, v, M2, rfl, hm2, _⟩
          have X2 := Lib.hid (X1.out.trans hm2.x)
          have R2 := Lib.hid (R1.out.ext hm2.x)
          clear hm2
          go_wp2_with fail
          refine (C3.out _ (HK.out.ext X2.out) (HB.out.ext X2.out)).mono ?_
          rintro e w3 ⟨y, rfl, ⟨pt, ct, rfl, hct, hrt⟩, hx3⟩
          have X3 := Lib.hid (X2.out.trans hx3)
          have s1 := conv_str ps S cs w3 (R2.out.ext hx3)
          have s2 := conv_str pt S ct w3 hrt
          clear hx3 hrt
          go_wp2_with fail
          refine (awake6 _ (HC.out.ext X3.out)).mono ?_
          rintro e w ⟨rfl, hx⟩
          go_wp2
          go_ret
          exact ⟨rfl, X3.out.trans hx⟩
        · have C1 := Lib.hid fun w => bsum_key size p q key.length c b.length d w (by omega) (by omega) (by omega)
          have C2 := Lib.hid fun w => new_key size p key.length c w (by omega) (by omega) (by omega)
          have C3 := Lib.hid fun w => rsum_key size p q key.length c b.length d w (by omega) (by omega) (by omega)
          clear hsz
          go_enter Tryd.func10, Tryd.ntmps10
          go_wp2_with fail
          refine (C1.out _).mono ?_
          rintro e w ⟨rfl, rfl⟩
          go_wp2_with fail
          refine (C2.out _).mono ?_
          rintro e w ⟨rfl, rfl⟩
          go_wp2_with fail
          refine (C3.out _).mono ?_
          rintro e w ⟨rfl, rfl⟩
          have s1 := conv_nil w0
          go_wp2_with fail
          refine (awake6 _ HC.out).mono ?_
          rintro e w ⟨rfl, hx⟩
          go_wp2
          go_ret
          exact ⟨rfl, hx⟩
    · have k1 : decide ((100 : Int) < (key.length : Int)) = true := decide_eq_true (by omega)
      have k2 : (100 : Int) < (key.length : Int) := by omega
      go_enter Tryd.func10, Tryd.ntmps10
      go_wp2
      go_ret
      exact ⟨rfl, Ext.refl _⟩
  · have n1 : decide ((600 : Int) < (b.length : Int)) = true := decide_eq_true (by omega)
    have n2 : (600 : Int) < (b.length : Int) := by omega
    go_enter Tryd.func10, Tryd.ntmps10
    go_wp2
    go_ret
    exact ⟨rfl, Ext.refl _⟩

end Go.Proofs.YtalcgmhdgegebaaDoor
