/-
  THE STATEMENT BlakeCompresses, PROVED: any eight numbers, compressed with any block, any count, the last one or not. Conditions: none beyond the card itself.
-/
import Derived.Test.YtalcgmhdgegebaaDoorRows
import Derived.Test.YtalcgmhdgegebaaDoorCards
import Derived.Test.YtalcgmhdgegebaaDoorTie
import Derived.Test.YtalcgmhdgegebaaDoorLawBlake2
import Derived.Test.YtalcgmhdgegebaaDoorLaidB
import Derived.Test.YtalcgmhdgegebaaDoorOpen
import Derived.SevenTiedAt
namespace Go.Proofs.YtalcgmhdgegebaaDoor.blakeCompresses
open Go Go.ChangeShapes Go.WideShapes Go.ChangeAt Go.RowKit
set_option linter.unusedVariables false
set_option linter.unusedSimpArgs false

theorem own : ownKnob Tryd.prog.godebug = none := by kernel_rfl
theorem laidOut : laidOutB Tryd.prog = true := by kernel_rfl

set_option maxRecDepth 100000 in
theorem lifted (os : Os) (started : os.Started) (H : Type) (enc : TypeId × Value → H) :
    ReturnsInHanded {} Tryd.checked os 9 .any (fun w args => (Rows.blakeCompressesSpec.pre enc Tryd.prog Tryd.f9 [] false w args ∧ laidMetH Tryd.prog laidB w) ∧ sizedMet enc Tryd.prog Tryd.f9 (OpenSpec.ofChange Rows.blakeCompressesSpec) false w args)
      (Rows.blakeCompressesSpec.post enc Tryd.prog Tryd.f9 false true false false) := by
  refine returnsInHanded_of_change_and (C := Tryd.checked) (X := fun w _ => laidMetH Tryd.prog laidB w) (fun _ _ _ hh h => h.of_heap hh) own started (by kernel_rfl) Tryd.func9
    (ChangeSpec.witness_shaped (enc := enc) (C := Tryd.checked) (os := os) (X := fun w _ => laidMetH Tryd.prog laidB w) false (World.doorLaid Tryd.prog 400 os) #[.agg #[.int .u64 0, .int .u64 0, .int .u64 0, .int .u64 0, .int .u64 0, .int .u64 0, .int .u64 0, .int .u64 0, .int .u8 0, .int .u8 0, .int .u8 0, .int .u8 0, .int .u8 0, .int .u8 0, .int .u8 0, .int .u8 0, .int .u8 0, .int .u8 0, .int .u8 0, .int .u8 0, .int .u8 0, .int .u8 0, .int .u8 0, .int .u8 0, .int .u8 0, .int .u8 0, .int .u8 0, .int .u8 0, .int .u8 0, .int .u8 0, .int .u8 0, .int .u8 0, .int .u8 0, .int .u8 0, .int .u8 0, .int .u8 0, .int .u8 0, .int .u8 0, .int .u8 0, .int .u8 0, .int .u8 0, .int .u8 0, .int .u8 0, .int .u8 0, .int .u8 0, .int .u8 0, .int .u8 0, .int .u8 0, .int .u8 0, .int .u8 0, .int .u8 0, .int .u8 0, .int .u8 0, .int .u8 0, .int .u8 0, .int .u8 0, .int .u8 0, .int .u8 0, .int .u8 0, .int .u8 0, .int .u8 0, .int .u8 0, .int .u8 0, .int .u8 0, .int .u8 0, .int .u8 0, .int .u8 0, .int .u8 0, .int .u8 0, .int .u8 0, .int .u8 0, .int .u8 0, .int .u8 0, .int .u8 0, .int .u8 0, .int .u8 0, .int .u8 0, .int .u8 0, .int .u8 0, .int .u8 0, .int .u8 0, .int .u8 0, .int .u8 0, .int .u8 0, .int .u8 0, .int .u8 0, .int .u8 0, .int .u8 0, .int .u8 0, .int .u8 0, .int .u8 0, .int .u8 0, .int .u8 0, .int .u8 0, .int .u8 0, .int .u8 0, .int .u8 0, .int .u8 0, .int .u8 0, .int .u8 0, .int .u8 0, .int .u8 0, .int .u8 0, .int .u8 0, .int .u8 0, .int .u8 0, .int .u8 0, .int .u8 0, .int .u8 0, .int .u8 0, .int .u8 0, .int .u8 0, .int .u8 0, .int .u8 0, .int .u8 0, .int .u8 0, .int .u8 0, .int .u8 0, .int .u8 0, .int .u8 0, .int .u8 0, .int .u8 0, .int .u8 0, .int .u8 0, .int .u8 0, .int .u8 0, .int .u8 0, .int .u8 0, .int .u8 0, .int .u8 0, .int .u8 0, .int .u8 0, .int .u8 0, .int .u8 0, .int .u8 0, .int .u8 0, .int .u64 0, .int .u64 0, .bool false]] 8 rfl (World.shaped_of_RefB (by kernel_rfl) (by kernel_rfl)) (by kernel_rfl) (by kernel_rfl) (by kernel_rfl) (door_metB os _)) ?_
  intro W base args ds gs before hval0 hW _ _ hL _
  have hval : ∀ (j : Nat) t v, Tryd.f9.params[j]? = some t → args[j]? = some v → Value.okWide Tryd.prog W .any base t v := hval0
  have hW' := hW
  obtain ⟨p, q, hA0, hV, rfl, hfz, hnd⟩ := hW
  have hA : DataW.TrodAll enc Tryd.prog W 0 (fun _ => true) true Tryd.f9.params.toList args.toList ds p := hA0
  rw [Tryd.params9] at hA hval
  obtain ⟨v0, vs0, d0, ds0, p0, q0, hargs, rfl, rfl, h0, r0⟩ := trodAll_cons hA
  obtain ⟨rfl, rfl, rfl⟩ := trodAll_nil r0
  obtain rfl : args = #[v0] := by cases args; simp_all
  obtain ⟨rfl, rfl⟩ := trodVars_none hV
  have k0 := h0
  have lt0 : ∀ x ∈ p0, x.block < W.heap.size := by obtain ⟨m, hm⟩ := k0; exact DataW.trod_lt m _ _ _ hm
  obtain ⟨cs1, rfl, t2⟩ := val_agg (by kernel_rfl) (hval 0 48 v0 rfl rfl) h0
  obtain ⟨h3, f4⟩ := (t2).struct Tryd.underlying48 (by kernel_rfl) (m := 139)
  obtain ⟨cs6, e7⟩ : ∃ c, c = (cs1.drop 0).take 8 := ⟨_, rfl⟩
  have t8 : Trd enc Tryd.prog W 45 cs6 := e7 ▸ Trd.field f4 (i := 0) (off := 0) (n := 8) (by kernel_rfl) (by kernel_rfl)
  obtain ⟨l9, h10, e11⟩ := (t8).arr64 Tryd.underlying45 Tryd.underlying44 (by kernel_rfl) (by kernel_rfl)
  obtain ⟨cs12, e13⟩ : ∃ c, c = (cs1.drop 8).take 128 := ⟨_, rfl⟩
  have t14 : Trd enc Tryd.prog W 46 cs12 := e13 ▸ Trd.field f4 (i := 1) (off := 8) (n := 128) (by kernel_rfl) (by kernel_rfl)
  obtain ⟨l15, h16, e17⟩ := (t14).arr8 Tryd.underlying46 Tryd.underlying5 (by kernel_rfl) (by kernel_rfl)
  obtain ⟨cs18, e19⟩ : ∃ c, c = (cs1.drop 136).take 1 := ⟨_, rfl⟩
  have t20 : Trd enc Tryd.prog W 44 cs18 := e19 ▸ Trd.field f4 (i := 2) (off := 136) (n := 1) (by kernel_rfl) (by kernel_rfl)
  obtain ⟨x21, e22⟩ := (t20).u64 Tryd.underlying44
  obtain ⟨cs23, e24⟩ : ∃ c, c = (cs1.drop 137).take 1 := ⟨_, rfl⟩
  have t25 : Trd enc Tryd.prog W 44 cs23 := e24 ▸ Trd.field f4 (i := 3) (off := 137) (n := 1) (by kernel_rfl) (by kernel_rfl)
  obtain ⟨x26, e27⟩ := (t25).u64 Tryd.underlying44
  obtain ⟨cs28, e29⟩ : ∃ c, c = (cs1.drop 138).take 1 := ⟨_, rfl⟩
  have t30 : Trd enc Tryd.prog W 4 cs28 := e29 ▸ Trd.field f4 (i := 4) (off := 138) (n := 1) (by kernel_rfl) (by kernel_rfl)
  obtain ⟨b31, e32⟩ := (t30).bool Tryd.underlying4
  have g33 : cs1 = (l9.map v64) ++ ((l15.map v8) ++ (([v64 x21]) ++ (([v64 x26]) ++ (([.bool b31]))))) := by
    conv => lhs; rw [← List.drop_zero (l := cs1)]
    rw [glue cs1 0 8, show cs1.drop (0 + 8) = cs1.drop 8 from rfl, ← e7, e11, glue cs1 8 128, show cs1.drop (8 + 128) = cs1.drop 136 from rfl, ← e13, e17, glue cs1 136 1, show cs1.drop (136 + 1) = cs1.drop 137 from rfl, ← e19, e22, glue cs1 137 1, show cs1.drop (137 + 1) = cs1.drop 138 from rfl, ← e24, e27, glue cs1 138 1, show cs1.drop (138 + 1) = cs1.drop 139 from rfl, ← e29, e32, List.drop_eq_nil_of_le (Nat.le_of_eq h3), List.append_nil]
  subst g33
  clear hA0 hval0
  refine (compresses_walk l9 l15 x21 x26 b31 W h10 h16 (laid_coefB hL)).mono fun e W' ⟨he, bel⟩ => ?_
  subst he
  exact ⟨_, rfl, _, _, _, [], _, [], hW', trodAll_mk1 (shut_bool Tryd.underlying4 _), (trodAll_cons_mk (Below.trod laidOut (by kernel_rfl) (of_decide_eq_true (by kernel_rfl)) k0 bel lt0) trodAll_mk0), rfl, bel.frame _, fun h => by cases h⟩

theorem over : Rows.blakeCompressesRow.holds Tryd.pinned (OpenSpec.ofChange Rows.blakeCompressesSpec) :=
  OpenClaim.holds_of_wide 9 Tryd.f9 rfl rfl rfl rfl rfl rfl rfl ⟨rfl, rfl, rfl, rfl, rfl⟩ rfl rfl rfl rfl rfl (by kernel_rfl) Tryd.func9 (by kernel_rfl)
    (of_decide_eq_true (by kernel_rfl)) (by unfold Func.isWrapper; first | (rw [if_pos (by decide +kernel)]; kernel_rfl) | (rw [if_neg (by decide +kernel)]; exact ⟨rfl, rfl⟩))
    (fun os started H enc _ => lifted os started H enc)

/-- ████ THE STATEMENT ████ -/
theorem proved : Rows.BlakeCompressesCardSaid :=
  Claim7.holds_tied_plain_at .later [] [.data, .data] true (true, "48b65478e678dd56d56c3f44b40f67d7752f3e50e72a57ca048b6bc4619aeac0") false
    over (fun _ h => by cases h) (by kernel_rfl) (fun _ h => by cases h) blakeCompresses_row_tie rfl ⟨rfl, rfl⟩ (by kernel_rfl) rfl
    (fun f fn hf hfn => by
      obtain rfl : f = 9 := Option.some.inj ((show Tryd.prog.funcNamed "wringer/wringerlaw06.BlakeCompresses" = some 9 by kernel_rfl).symm.trans hf) |>.symm
      obtain rfl : fn = Tryd.f9 := (Option.some.inj (Tryd.func9.symm.trans hfn)).symm
      exact ⟨by kernel_rfl, fun j t ht => by
        rw [Tryd.params9] at ht
        have hm : t ∈ [48] := by simpa using Array.mem_of_getElem? ht
        have hall : ([48].all fun u => !Tryd.prog.wantsStandIn u) = true := by kernel_rfl
        exact (show Tryd.prog.wantsStandIn t = false by simpa using List.all_eq_true.1 hall t hm)⟩)
    (by kernel_rfl)
end Go.Proofs.YtalcgmhdgegebaaDoor.blakeCompresses
