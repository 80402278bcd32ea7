/-
  THE STATEMENT TinySteady, PROVED: The statement holds.
-/
import Derived.Test.YtmgopjeaehmbfaaDoorRows
import Derived.Test.YtmgopjeaehmbfaaDoorCards
import Derived.Test.YtmgopjeaehmbfaaDoorTie
import Derived.Test.YtmgopjeaehmbfaaDoorLawT6
import Derived.Test.YtmgopjeaehmbfaaDoorLaidA
import Derived.Test.YtmgopjeaehmbfaaDoorOpen
import Derived.SevenTiedAt
namespace Go.Proofs.YtmgopjeaehmbfaaDoor.tinySteady
open Go Go.ChangeShapes Go.WideShapes Go.ChangeAt Go.RowKit
set_option linter.unusedVariables false
set_option linter.unusedSimpArgs false

theorem own : ownKnob Tryd.prog.godebug = none := by kernel_rfl
theorem laidOut : laidOutB Tryd.prog = true := by kernel_rfl

set_option maxRecDepth 100000 in
theorem lifted (os : Os) (started : os.Started) (H : Type) (enc : TypeId × Value → H) :
    ReturnsInHanded {} Tryd.checked os 17 .any (fun w args => (Rows.tinySteadySpec.pre enc Tryd.prog Tryd.f17 [] false w args ∧ laidMetH Tryd.prog laidA w) ∧ sizedMet enc Tryd.prog Tryd.f17 (OpenSpec.ofChange Rows.tinySteadySpec) false w args)
      (Rows.tinySteadySpec.post enc Tryd.prog Tryd.f17 false true false false) := by
  refine returnsInHanded_of_change_and (C := Tryd.checked) (X := fun w _ => laidMetH Tryd.prog laidA w) (fun _ _ _ hh h => h.of_heap hh) own started (by kernel_rfl) Tryd.func17
    (ChangeSpec.witness_shaped (enc := enc) (C := Tryd.checked) (os := os) (X := fun w _ => laidMetH Tryd.prog laidA w) false (World.doorLaid Tryd.prog 400 os) #[.agg #[.slice none 0 0, .slice none 0 0, .slice none 0 0, .bool false]] 8 rfl (World.shaped_of_RefB (by kernel_rfl) (by kernel_rfl)) (by kernel_rfl) (by kernel_rfl) (by kernel_rfl) (door_metA os _)) ?_
  intro W base args ds gs before hval0 hW _ _ hL _
  have hval : ∀ (j : Nat) t v, Tryd.f17.params[j]? = some t → args[j]? = some v → Value.okWide Tryd.prog W .any base t v := hval0
  have hW' := hW
  obtain ⟨p, q, hA0, hV, rfl, hfz, hnd⟩ := hW
  have hA : DataW.TrodAll enc Tryd.prog W 0 (fun _ => true) true Tryd.f17.params.toList args.toList ds p := hA0
  rw [Tryd.params17] at hA hval
  obtain ⟨v0, vs0, d0, ds0, p0, q0, hargs, rfl, rfl, h0, r0⟩ := trodAll_cons hA
  obtain ⟨rfl, rfl, rfl⟩ := trodAll_nil r0
  obtain rfl : args = #[v0] := by cases args; simp_all
  obtain ⟨rfl, rfl⟩ := trodVars_none hV
  have k0 := h0
  have lt0 : ∀ x ∈ p0, x.block < W.heap.size := by obtain ⟨m, hm⟩ := k0; exact DataW.trod_lt m _ _ _ hm
  obtain ⟨cs101, rfl, t102⟩ := val_agg (by kernel_rfl) (hval 0 66 v0 rfl rfl) h0
  obtain ⟨h103, f104⟩ := (t102).struct Tryd.underlying66 (by kernel_rfl) (m := 4)
  obtain ⟨cs106, e107⟩ : ∃ c, c = (cs101.drop 0).take 1 := ⟨_, rfl⟩
  have t108 : Trd enc Tryd.prog W 22 cs106 := e107 ▸ Trd.field f104 (i := 0) (off := 0) (n := 1) (by kernel_rfl) (by kernel_rfl)
  obtain ⟨p109, l110, c111, e112, h113, h114, h115⟩ := (t108).bytes Tryd.underlying22 Tryd.underlying5 (by kernel_rfl)
  obtain ⟨cs116, e117⟩ : ∃ c, c = (cs101.drop 1).take 1 := ⟨_, rfl⟩
  have t118 : Trd enc Tryd.prog W 40 cs116 := e117 ▸ Trd.field f104 (i := 1) (off := 1) (n := 1) (by kernel_rfl) (by kernel_rfl)
  obtain ⟨p119, l120, c121, e122, h123, h124, h125⟩ := (t118).rows Tryd.underlying40 Tryd.underlying22 Tryd.underlying5 (by kernel_rfl) (by kernel_rfl)
  obtain ⟨cs126, e127⟩ : ∃ c, c = (cs101.drop 2).take 1 := ⟨_, rfl⟩
  have t128 : Trd enc Tryd.prog W 22 cs126 := e127 ▸ Trd.field f104 (i := 2) (off := 2) (n := 1) (by kernel_rfl) (by kernel_rfl)
  obtain ⟨p129, l130, c131, e132, h133, h134, h135⟩ := (t128).bytes Tryd.underlying22 Tryd.underlying5 (by kernel_rfl)
  obtain ⟨cs136, e137⟩ : ∃ c, c = (cs101.drop 3).take 1 := ⟨_, rfl⟩
  have t138 : Trd enc Tryd.prog W 4 cs136 := e137 ▸ Trd.field f104 (i := 3) (off := 3) (n := 1) (by kernel_rfl) (by kernel_rfl)
  obtain ⟨b139, e140⟩ := (t138).bool Tryd.underlying4
  have g141 : cs101 = ([.slice p109 l110.length c111]) ++ (([.slice p119 l120.length c121]) ++ (([.slice p129 l130.length c131]) ++ (([.bool b139])))) := by
    conv => lhs; rw [← List.drop_zero (l := cs101)]
    rw [glue cs101 0 1, show cs101.drop (0 + 1) = cs101.drop 1 from rfl, ← e107, e112, glue cs101 1 1, show cs101.drop (1 + 1) = cs101.drop 2 from rfl, ← e117, e122, glue cs101 2 1, show cs101.drop (2 + 1) = cs101.drop 3 from rfl, ← e127, e132, glue cs101 3 1, show cs101.drop (3 + 1) = cs101.drop 4 from rfl, ← e137, e140, List.drop_eq_nil_of_le (Nat.le_of_eq h103), List.append_nil]
  subst g141
  clear hA0 hval0
  refine (tsteady_walk l110 p109 c111 l120 p119 c121 l130 p129 c131 b139 W h113 h114 h115 h123 h124 h125 h133 h134 h135 (laid_coefA hL)).mono fun e W' ⟨he, bel⟩ => ?_
  subst he
  exact ⟨_, rfl, _, _, _, [], _, [], hW', trodAll_mk1 (shut_bool Tryd.underlying4 _), (trodAll_cons_mk (Below.trod laidOut (by kernel_rfl) (of_decide_eq_true (by kernel_rfl)) k0 bel lt0) trodAll_mk0), rfl, bel.frame _, fun h => by cases h⟩

theorem over : Rows.tinySteadyRow.holds Tryd.pinned (OpenSpec.ofChange Rows.tinySteadySpec) :=
  OpenClaim.holds_of_wide 17 Tryd.f17 rfl rfl rfl rfl rfl rfl rfl ⟨rfl, rfl, rfl, rfl, rfl⟩ rfl rfl rfl rfl rfl (by kernel_rfl) Tryd.func17 (by kernel_rfl)
    (of_decide_eq_true (by kernel_rfl)) (by unfold Func.isWrapper; first | (rw [if_pos (by decide +kernel)]; kernel_rfl) | (rw [if_neg (by decide +kernel)]; exact ⟨rfl, rfl⟩))
    (fun os started H enc _ => lifted os started H enc)

/-- ████ THE STATEMENT ████ -/
theorem proved : Rows.TinySteadyCardSaid :=
  Claim7.holds_tied_plain_at .later [] [.data, .data, .data, .data] true (true, "2d59add82c94566b580b002f4c0940fdac8199e3002fe50fd04805472ecb882b") false
    over (fun _ h => by cases h) (by kernel_rfl) (fun _ h => by cases h) tinySteady_row_tie rfl ⟨rfl, rfl⟩ (by kernel_rfl) rfl
    (fun f fn hf hfn => by
      obtain rfl : f = 17 := Option.some.inj ((show Tryd.prog.funcNamed "wringer/wringerlaw19.TinySteady" = some 17 by kernel_rfl).symm.trans hf) |>.symm
      obtain rfl : fn = Tryd.f17 := (Option.some.inj (Tryd.func17.symm.trans hfn)).symm
      exact ⟨by kernel_rfl, fun j t ht => by
        rw [Tryd.params17] at ht
        have hm : t ∈ [66] := by simpa using Array.mem_of_getElem? ht
        have hall : ([66].all fun u => !Tryd.prog.wantsStandIn u) = true := by kernel_rfl
        exact (show Tryd.prog.wantsStandIn t = false by simpa using List.all_eq_true.1 hall t hm)⟩)
    (by kernel_rfl)
end Go.Proofs.YtmgopjeaehmbfaaDoor.tinySteady
