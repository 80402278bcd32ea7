/-
  THE STATEMENT BlakeKept, PROVED: What is written, and a key, are not kept: what becomes of them later changes no sum. Conditions: as the rows list them.
-/
import Derived.Test.YtmclklhnbmkheaaDoorRows
import Derived.Test.YtmclklhnbmkheaaDoorCards
import Derived.Test.YtmclklhnbmkheaaDoorTie
import Derived.Test.YtmclklhnbmkheaaDoorLawBlake6
import Derived.Test.YtmclklhnbmkheaaDoorLaidB
import Derived.Test.YtmclklhnbmkheaaDoorOpen
import Derived.SevenTiedAt
namespace Go.Proofs.YtmclklhnbmkheaaDoor.blakeKept
open Go Go.ChangeShapes Go.WideShapes Go.ChangeAt Go.RowKit
set_option linter.unusedVariables false
set_option linter.unusedSimpArgs false

theorem own : ownKnob Tryd.prog.godebug = none := by kernel_rfl
theorem laidOut : laidOutB Tryd.prog = true := by kernel_rfl

set_option maxRecDepth 100000 in
theorem lifted (os : Os) (started : os.Started) (H : Type) (enc : TypeId × Value → H) :
    ReturnsInHanded {} Tryd.checked os 3 .any (fun w args => (Rows.blakeKeptSpec.pre enc Tryd.prog Tryd.f3 [] false w args ∧ laidMetH Tryd.prog laidB w) ∧ sizedMet enc Tryd.prog Tryd.f3 (OpenSpec.ofChange Rows.blakeKeptSpec) false w args)
      (Rows.blakeKeptSpec.post enc Tryd.prog Tryd.f3 false true false false) := by
  refine returnsInHanded_of_change_and (C := Tryd.checked) (X := fun w _ => laidMetH Tryd.prog laidB w) (fun _ _ _ hh h => h.of_heap hh) own started (by kernel_rfl) Tryd.func3
    (ChangeSpec.witness_shaped (enc := enc) (C := Tryd.checked) (os := os) (X := fun w _ => laidMetH Tryd.prog laidB w) false (World.doorLaid Tryd.prog 400 os) #[.agg #[.int .i64 0, .slice none 0 0, .slice none 0 0]] 8 rfl (World.shaped_of_RefB (by kernel_rfl) (by kernel_rfl)) (by kernel_rfl) (by kernel_rfl) (by kernel_rfl) (door_metB os _)) ?_
  intro W base args ds gs before hval0 hW _ _ hL _
  have hval : ∀ (j : Nat) t v, Tryd.f3.params[j]? = some t → args[j]? = some v → Value.okWide Tryd.prog W .any base t v := hval0
  have hW' := hW
  obtain ⟨p, q, hA0, hV, rfl, hfz, hnd⟩ := hW
  have hA : DataW.TrodAll enc Tryd.prog W 0 (fun _ => true) true Tryd.f3.params.toList args.toList ds p := hA0
  rw [Tryd.params3] at hA hval
  obtain ⟨v0, vs0, d0, ds0, p0, q0, hargs, rfl, rfl, h0, r0⟩ := trodAll_cons hA
  obtain ⟨rfl, rfl, rfl⟩ := trodAll_nil r0
  obtain rfl : args = #[v0] := by cases args; simp_all
  obtain ⟨rfl, rfl⟩ := trodVars_none hV
  have k0 := h0
  have lt0 : ∀ x ∈ p0, x.block < W.heap.size := by obtain ⟨m, hm⟩ := k0; exact DataW.trod_lt m _ _ _ hm
  obtain ⟨cs101, rfl, t102⟩ := val_agg (by kernel_rfl) (hval 0 25 v0 rfl rfl) h0
  obtain ⟨h103, f104⟩ := (t102).struct Tryd.underlying25 (by kernel_rfl) (m := 3)
  obtain ⟨cs106, e107⟩ : ∃ c, c = (cs101.drop 0).take 1 := ⟨_, rfl⟩
  have t108 : Trd enc Tryd.prog W 3 cs106 := e107 ▸ Trd.field f104 (i := 0) (off := 0) (n := 1) (by kernel_rfl) (by kernel_rfl)
  obtain ⟨n109, e110, h111, h112⟩ := (t108).i64 Tryd.underlying3
  obtain ⟨cs113, e114⟩ : ∃ c, c = (cs101.drop 1).take 1 := ⟨_, rfl⟩
  have t115 : Trd enc Tryd.prog W 22 cs113 := e114 ▸ Trd.field f104 (i := 1) (off := 1) (n := 1) (by kernel_rfl) (by kernel_rfl)
  obtain ⟨p116, l117, c118, e119, h120, h121, h122⟩ := (t115).bytes Tryd.underlying22 Tryd.underlying5 (by kernel_rfl)
  obtain ⟨cs123, e124⟩ : ∃ c, c = (cs101.drop 2).take 1 := ⟨_, rfl⟩
  have t125 : Trd enc Tryd.prog W 23 cs123 := e124 ▸ Trd.field f104 (i := 2) (off := 2) (n := 1) (by kernel_rfl) (by kernel_rfl)
  obtain ⟨p126, l127, c128, e129, h130, h131, h132⟩ := (t125).rows Tryd.underlying23 Tryd.underlying22 Tryd.underlying5 (by kernel_rfl) (by kernel_rfl)
  have g133 : cs101 = ([.int .i64 n109]) ++ (([.slice p116 l117.length c118]) ++ (([.slice p126 l127.length c128]))) := by
    conv => lhs; rw [← List.drop_zero (l := cs101)]
    rw [glue cs101 0 1, show cs101.drop (0 + 1) = cs101.drop 1 from rfl, ← e107, e110, glue cs101 1 1, show cs101.drop (1 + 1) = cs101.drop 2 from rfl, ← e114, e119, glue cs101 2 1, show cs101.drop (2 + 1) = cs101.drop 3 from rfl, ← e124, e129, List.drop_eq_nil_of_le (Nat.le_of_eq h103), List.append_nil]
  subst g133
  clear hA0 hval0
  refine (kept_walk n109 l117 p116 c118 l127 p126 c128 W h111 h112 h120 h121 h122 h130 h131 h132 (laid_coefB hL)).mono fun e W' ⟨he, bel⟩ => ?_
  subst he
  exact ⟨_, rfl, _, _, _, [], _, [], hW', trodAll_mk1 (shut_bool Tryd.underlying4 _), (trodAll_cons_mk (Below.trod laidOut (by kernel_rfl) (of_decide_eq_true (by kernel_rfl)) k0 bel lt0) trodAll_mk0), rfl, bel.frame _, fun h => by cases h⟩

theorem over : Rows.blakeKeptRow.holds Tryd.pinned (OpenSpec.ofChange Rows.blakeKeptSpec) :=
  OpenClaim.holds_of_wide 3 Tryd.f3 rfl rfl rfl rfl rfl rfl rfl ⟨rfl, rfl, rfl, rfl, rfl⟩ rfl rfl rfl rfl rfl (by kernel_rfl) Tryd.func3 (by kernel_rfl)
    (of_decide_eq_true (by kernel_rfl)) (by unfold Func.isWrapper; first | (rw [if_pos (by decide +kernel)]; kernel_rfl) | (rw [if_neg (by decide +kernel)]; exact ⟨rfl, rfl⟩))
    (fun os started H enc _ => lifted os started H enc)

/-- ████ THE STATEMENT ████ -/
theorem proved : Rows.BlakeKeptCardSaid :=
  Claim7.holds_tied_plain_at .later [] [.data, .data] true (true, "88bd069d579095cb0f94713eab46dd7cac7b9868926a5673686617d768db270a") false
    over (fun _ h => by cases h) (by kernel_rfl) (fun _ h => by cases h) blakeKept_row_tie rfl ⟨rfl, rfl⟩ (by kernel_rfl) rfl
    (fun f fn hf hfn => by
      obtain rfl : f = 3 := Option.some.inj ((show Tryd.prog.funcNamed "wringer/wringerlaw06.BlakeKept" = some 3 by kernel_rfl).symm.trans hf) |>.symm
      obtain rfl : fn = Tryd.f3 := (Option.some.inj (Tryd.func3.symm.trans hfn)).symm
      exact ⟨by kernel_rfl, fun j t ht => by
        rw [Tryd.params3] at ht
        have hm : t ∈ [25] := by simpa using Array.mem_of_getElem? ht
        have hall : ([25].all fun u => !Tryd.prog.wantsStandIn u) = true := by kernel_rfl
        exact (show Tryd.prog.wantsStandIn t = false by simpa using List.all_eq_true.1 hall t hm)⟩)
    (by kernel_rfl)
end Go.Proofs.YtmclklhnbmkheaaDoor.blakeKept
