/-
  THE STATEMENT EzhashLast, PROVED: The statement holds.
-/
import Derived.Test.YtmgopjeaehmbfaaDoorRows
import Derived.Test.YtmgopjeaehmbfaaDoorCards
import Derived.Test.YtmgopjeaehmbfaaDoorTie
import Derived.Test.YtmgopjeaehmbfaaDoorLawHash7
import Derived.Test.YtmgopjeaehmbfaaDoorLaidA
import Derived.Test.YtmgopjeaehmbfaaDoorOpen
import Derived.SevenTiedAt
namespace Go.Proofs.YtmgopjeaehmbfaaDoor.ezhashLast
open Go Go.ChangeShapes Go.WideShapes Go.ChangeAt Go.RowKit
set_option linter.unusedVariables false
set_option linter.unusedSimpArgs false

theorem own : ownKnob Tryd.prog.godebug = none := by kernel_rfl
theorem laidOut : laidOutB Tryd.prog = true := by kernel_rfl

set_option maxRecDepth 100000 in
theorem lifted (os : Os) (started : os.Started) (H : Type) (enc : TypeId × Value → H) :
    ReturnsInHanded {} Tryd.checked os 6 .any (fun w args => (Rows.ezhashLastSpec.pre enc Tryd.prog Tryd.f6 [] false w args ∧ laidMetH Tryd.prog laidA w) ∧ sizedMet enc Tryd.prog Tryd.f6 (OpenSpec.ofChange Rows.ezhashLastSpec) false w args)
      (Rows.ezhashLastSpec.post enc Tryd.prog Tryd.f6 false true false false) := by
  refine returnsInHanded_of_change_and (C := Tryd.checked) (X := fun w _ => laidMetH Tryd.prog laidA w) (fun _ _ _ hh h => h.of_heap hh) own started (by kernel_rfl) Tryd.func6
    (ChangeSpec.witness_shaped (enc := enc) (C := Tryd.checked) (os := os) (X := fun w _ => laidMetH Tryd.prog laidA w) false (World.doorLaid Tryd.prog 400 os) #[.agg #[.slice none 0 0, .int .u8 0, .int .u8 0, .int .u8 0, .int .u8 0, .int .u8 0, .int .u8 0, .int .u8 0, .int .u8 0, .int .u8 0, .int .u8 0, .int .u8 0, .int .u8 0, .int .u8 0, .int .u8 0, .int .u8 0, .int .u8 0, .int .u8 0, .int .u8 0, .int .u8 0, .int .u8 0, .int .u8 0, .int .u8 0, .int .u8 0, .int .u8 0, .int .u8 0, .int .u8 0, .int .u8 0, .int .u8 0, .int .u8 0, .int .u8 0, .int .u8 0, .int .u8 0, .int .u8 0, .int .u8 0]] 8 rfl (World.shaped_of_RefB (by kernel_rfl) (by kernel_rfl)) (by kernel_rfl) (by kernel_rfl) (by kernel_rfl) (door_metA os _)) ?_
  intro W base args ds gs before hval0 hW _ _ hL _
  have hval : ∀ (j : Nat) t v, Tryd.f6.params[j]? = some t → args[j]? = some v → Value.okWide Tryd.prog W .any base t v := hval0
  have hW' := hW
  obtain ⟨p, q, hA0, hV, rfl, hfz, hnd⟩ := hW
  have hA : DataW.TrodAll enc Tryd.prog W 0 (fun _ => true) true Tryd.f6.params.toList args.toList ds p := hA0
  rw [Tryd.params6] at hA hval
  obtain ⟨v0, vs0, d0, ds0, p0, q0, hargs, rfl, rfl, h0, r0⟩ := trodAll_cons hA
  obtain ⟨rfl, rfl, rfl⟩ := trodAll_nil r0
  obtain rfl : args = #[v0] := by cases args; simp_all
  obtain ⟨rfl, rfl⟩ := trodVars_none hV
  have k0 := h0
  have lt0 : ∀ x ∈ p0, x.block < W.heap.size := by obtain ⟨m, hm⟩ := k0; exact DataW.trod_lt m _ _ _ hm
  obtain ⟨cs101, rfl, t102⟩ := val_agg (by kernel_rfl) (hval 0 49 v0 rfl rfl) h0
  obtain ⟨h103, f104⟩ := (t102).struct Tryd.underlying49 (by kernel_rfl) (m := 35)
  obtain ⟨cs106, e107⟩ : ∃ c, c = (cs101.drop 0).take 1 := ⟨_, rfl⟩
  have t108 : Trd enc Tryd.prog W 22 cs106 := e107 ▸ Trd.field f104 (i := 0) (off := 0) (n := 1) (by kernel_rfl) (by kernel_rfl)
  obtain ⟨p109, l110, c111, e112, h113, h114, h115⟩ := (t108).bytes Tryd.underlying22 Tryd.underlying5 (by kernel_rfl)
  obtain ⟨cs116, e117⟩ : ∃ c, c = (cs101.drop 1).take 16 := ⟨_, rfl⟩
  have t118 : Trd enc Tryd.prog W 27 cs116 := e117 ▸ Trd.field f104 (i := 1) (off := 1) (n := 16) (by kernel_rfl) (by kernel_rfl)
  obtain ⟨l119, h120, e121⟩ := (t118).arr8 Tryd.underlying27 Tryd.underlying5 (by kernel_rfl) (by kernel_rfl)
  obtain ⟨cs122, e123⟩ : ∃ c, c = (cs101.drop 17).take 16 := ⟨_, rfl⟩
  have t124 : Trd enc Tryd.prog W 27 cs122 := e123 ▸ Trd.field f104 (i := 2) (off := 17) (n := 16) (by kernel_rfl) (by kernel_rfl)
  obtain ⟨l125, h126, e127⟩ := (t124).arr8 Tryd.underlying27 Tryd.underlying5 (by kernel_rfl) (by kernel_rfl)
  obtain ⟨cs128, e129⟩ : ∃ c, c = (cs101.drop 33).take 1 := ⟨_, rfl⟩
  have t130 : Trd enc Tryd.prog W 5 cs128 := e129 ▸ Trd.field f104 (i := 3) (off := 33) (n := 1) (by kernel_rfl) (by kernel_rfl)
  obtain ⟨x131, e132⟩ := (t130).u8 Tryd.underlying5
  obtain ⟨cs133, e134⟩ : ∃ c, c = (cs101.drop 34).take 1 := ⟨_, rfl⟩
  have t135 : Trd enc Tryd.prog W 5 cs133 := e134 ▸ Trd.field f104 (i := 4) (off := 34) (n := 1) (by kernel_rfl) (by kernel_rfl)
  obtain ⟨x136, e137⟩ := (t135).u8 Tryd.underlying5
  have g138 : cs101 = ([.slice p109 l110.length c111]) ++ ((l119.map v8) ++ ((l125.map v8) ++ (([v8 x131]) ++ (([v8 x136]))))) := by
    conv => lhs; rw [← List.drop_zero (l := cs101)]
    rw [glue cs101 0 1, show cs101.drop (0 + 1) = cs101.drop 1 from rfl, ← e107, e112, glue cs101 1 16, show cs101.drop (1 + 16) = cs101.drop 17 from rfl, ← e117, e121, glue cs101 17 16, show cs101.drop (17 + 16) = cs101.drop 33 from rfl, ← e123, e127, glue cs101 33 1, show cs101.drop (33 + 1) = cs101.drop 34 from rfl, ← e129, e132, glue cs101 34 1, show cs101.drop (34 + 1) = cs101.drop 35 from rfl, ← e134, e137, List.drop_eq_nil_of_le (Nat.le_of_eq h103), List.append_nil]
  subst g138
  clear hA0 hval0
  refine (last16_walk l110 p109 c111 l119 l125 x131 x136 W h113 h114 h115 h120 h126 (laid_coefA hL)).mono fun e W' ⟨he, bel⟩ => ?_
  subst he
  exact ⟨_, rfl, _, _, _, [], _, [], hW', trodAll_mk1 (shut_bool Tryd.underlying4 _), (trodAll_cons_mk (Below.trod laidOut (by kernel_rfl) (of_decide_eq_true (by kernel_rfl)) k0 bel lt0) trodAll_mk0), rfl, bel.frame _, fun h => by cases h⟩

theorem over : Rows.ezhashLastRow.holds Tryd.pinned (OpenSpec.ofChange Rows.ezhashLastSpec) :=
  OpenClaim.holds_of_wide 6 Tryd.f6 rfl rfl rfl rfl rfl rfl rfl ⟨rfl, rfl, rfl, rfl, rfl⟩ rfl rfl rfl rfl rfl (by kernel_rfl) Tryd.func6 (by kernel_rfl)
    (of_decide_eq_true (by kernel_rfl)) (by unfold Func.isWrapper; first | (rw [if_pos (by decide +kernel)]; kernel_rfl) | (rw [if_neg (by decide +kernel)]; exact ⟨rfl, rfl⟩))
    (fun os started H enc _ => lifted os started H enc)

/-- ████ THE STATEMENT ████ -/
theorem proved : Rows.EzhashLastCardSaid :=
  Claim7.holds_tied_plain_at .later [] [.data, .data, .data, .data] true (true, "2d59add82c94566b580b002f4c0940fdac8199e3002fe50fd04805472ecb882b") false
    over (fun _ h => by cases h) (by kernel_rfl) (fun _ h => by cases h) ezhashLast_row_tie rfl ⟨rfl, rfl⟩ (by kernel_rfl) rfl
    (fun f fn hf hfn => by
      obtain rfl : f = 6 := Option.some.inj ((show Tryd.prog.funcNamed "wringer/wringerlaw16.EzhashLast" = some 6 by kernel_rfl).symm.trans hf) |>.symm
      obtain rfl : fn = Tryd.f6 := (Option.some.inj (Tryd.func6.symm.trans hfn)).symm
      exact ⟨by kernel_rfl, fun j t ht => by
        rw [Tryd.params6] at ht
        have hm : t ∈ [49] := by simpa using Array.mem_of_getElem? ht
        have hall : ([49].all fun u => !Tryd.prog.wantsStandIn u) = true := by kernel_rfl
        exact (show Tryd.prog.wantsStandIn t = false by simpa using List.all_eq_true.1 hall t hm)⟩)
    (by kernel_rfl)
end Go.Proofs.YtmgopjeaehmbfaaDoor.ezhashLast
