/-
  THE STATEMENT TinySteps, PROVED: The step of any hash, numbers and half, and any message, flipped, are the document's. Conditions: as the rows list them.
-/
import Derived.Test.YtaijfigohlkccaaGreatDoorRows
import Derived.Test.YtaijfigohlkccaaGreatDoorCards
import Derived.Test.YtaijfigohlkccaaGreatDoorTie
import Derived.Test.YtaijfigohlkccaaGreatDoorZTinySteps26
import Derived.Test.YtaijfigohlkccaaGreatDoorZTinySteps27
import Derived.Test.YtaijfigohlkccaaGreatDoorZTinySteps6
import Derived.SevenTiedAt
namespace Go.Proofs.YtaijfigohlkccaaGreatDoor.tinySteps
open Go Go.ChangeShapes Go.WideShapes Go.ChangeAt Go.RowKit
set_option linter.unusedVariables false
set_option linter.unusedSimpArgs false

theorem own : ownKnob Tryz.prog.godebug = none := by kernel_rfl
theorem laidOut : laidOutB Tryz.prog = true := by kernel_rfl

set_option maxRecDepth 100000 in
theorem lifted (os : Os) (started : os.Started) (H : Type) (enc : TypeId × Value → H) :
    ReturnsInHanded {} Tryz.checked os 5 .any (fun w args => (Rows.tinyStepsSpec.pre enc Tryz.prog Tryz.f5 [] false w args ∧ laidMetH Tryz.prog laidA w) ∧ sizedMet enc Tryz.prog Tryz.f5 (OpenSpec.ofChange Rows.tinyStepsSpec) false w args)
      (Rows.tinyStepsSpec.post enc Tryz.prog Tryz.f5 false true false false) := by
  refine returnsInHanded_of_change_and (C := Tryz.checked) (X := fun w _ => laidMetH Tryz.prog laidA w) (fun _ _ _ hh h => h.of_heap hh) own started (by kernel_rfl) Tryz.func5
    (ChangeSpec.witness_shaped (enc := enc) (C := Tryz.checked) (os := os) (X := fun w _ => laidMetH Tryz.prog laidA w) false (World.doorLaid Tryz.prog 400 os) #[.agg #[.slice none 0 0, .int .u8 0, .int .u8 0, .int .u8 0, .int .u8 0, .int .u8 0, .int .u8 0, .int .u8 0, .int .u8 0, .int .u8 0, .int .u8 0, .int .u8 0, .int .u8 0, .int .u8 0, .int .u8 0, .int .u8 0, .int .u8 0, .int .i64 0, .int .i64 0, .slice none 0 0]] 8 rfl (World.shaped_of_RefB (by kernel_rfl) (by kernel_rfl)) (by kernel_rfl) (by kernel_rfl) (by kernel_rfl) (door_metA os _)) ?_
  intro W base args ds gs before hval0 hW _ _ hL _
  have hval : ∀ (j : Nat) t v, Tryz.f5.params[j]? = some t → args[j]? = some v → Value.okWide Tryz.prog W .any base t v := hval0
  have hW' := hW
  obtain ⟨p, q, hA0, hV, rfl, hfz, hnd⟩ := hW
  have hA : DataW.TrodAll enc Tryz.prog W 0 (fun _ => true) true Tryz.f5.params.toList args.toList ds p := hA0
  rw [Tryz.params5] at hA hval
  obtain ⟨v0, vs0, d0, ds0, p0, q0, hargs, rfl, rfl, h0, r0⟩ := trodAll_cons hA
  obtain ⟨rfl, rfl, rfl⟩ := trodAll_nil r0
  obtain rfl : args = #[v0] := by cases args; simp_all
  obtain ⟨rfl, rfl⟩ := trodVars_none hV
  have k0 := h0
  have lt0 : ∀ x ∈ p0, x.block < W.heap.size := by obtain ⟨m, hm⟩ := k0; exact DataW.trod_lt m _ _ _ hm
  obtain ⟨cs101, rfl, t102⟩ := val_agg (by kernel_rfl) (hval 0 49 v0 rfl rfl) h0
  obtain ⟨h103, f104⟩ := (t102).struct Tryz.underlying49 (by kernel_rfl) (m := 20)
  obtain ⟨cs106, e107⟩ : ∃ c, c = (cs101.drop 0).take 1 := ⟨_, rfl⟩
  have t108 : Trd enc Tryz.prog W 22 cs106 := e107 ▸ Trd.field f104 (i := 0) (off := 0) (n := 1) (by kernel_rfl) (by kernel_rfl)
  obtain ⟨p109, l110, c111, e112, h113, h114, h115⟩ := (t108).bytes Tryz.underlying22 Tryz.underlying5 (by kernel_rfl)
  obtain ⟨cs116, e117⟩ : ∃ c, c = (cs101.drop 1).take 16 := ⟨_, rfl⟩
  have t118 : Trd enc Tryz.prog W 36 cs116 := e117 ▸ Trd.field f104 (i := 1) (off := 1) (n := 16) (by kernel_rfl) (by kernel_rfl)
  obtain ⟨l119, h120, e121⟩ := (t118).arr8 Tryz.underlying36 Tryz.underlying5 (by kernel_rfl) (by kernel_rfl)
  obtain ⟨cs122, e123⟩ : ∃ c, c = (cs101.drop 17).take 1 := ⟨_, rfl⟩
  have t124 : Trd enc Tryz.prog W 3 cs122 := e123 ▸ Trd.field f104 (i := 2) (off := 17) (n := 1) (by kernel_rfl) (by kernel_rfl)
  obtain ⟨n125, e126, h127, h128⟩ := (t124).i64 Tryz.underlying3
  obtain ⟨cs129, e130⟩ : ∃ c, c = (cs101.drop 18).take 1 := ⟨_, rfl⟩
  have t131 : Trd enc Tryz.prog W 3 cs129 := e130 ▸ Trd.field f104 (i := 3) (off := 18) (n := 1) (by kernel_rfl) (by kernel_rfl)
  obtain ⟨n132, e133, h134, h135⟩ := (t131).i64 Tryz.underlying3
  obtain ⟨cs136, e137⟩ : ∃ c, c = (cs101.drop 19).take 1 := ⟨_, rfl⟩
  have t138 : Trd enc Tryz.prog W 22 cs136 := e137 ▸ Trd.field f104 (i := 4) (off := 19) (n := 1) (by kernel_rfl) (by kernel_rfl)
  obtain ⟨p139, l140, c141, e142, h143, h144, h145⟩ := (t138).bytes Tryz.underlying22 Tryz.underlying5 (by kernel_rfl)
  have g146 : cs101 = ([.slice p109 l110.length c111]) ++ ((l119.map v8) ++ (([.int .i64 n125]) ++ (([.int .i64 n132]) ++ (([.slice p139 l140.length c141]))))) := by
    conv => lhs; rw [← List.drop_zero (l := cs101)]
    rw [glue cs101 0 1, show cs101.drop (0 + 1) = cs101.drop 1 from rfl, ← e107, e112, glue cs101 1 16, show cs101.drop (1 + 16) = cs101.drop 17 from rfl, ← e117, e121, glue cs101 17 1, show cs101.drop (17 + 1) = cs101.drop 18 from rfl, ← e123, e126, glue cs101 18 1, show cs101.drop (18 + 1) = cs101.drop 19 from rfl, ← e130, e133, glue cs101 19 1, show cs101.drop (19 + 1) = cs101.drop 20 from rfl, ← e137, e142, List.drop_eq_nil_of_le (Nat.le_of_eq h103), List.append_nil]
  subst g146
  clear hA0 hval0
  refine (tsteps_walk l110 p109 c111 l119 n125 n132 l140 p139 c141 W h113 h114 h115 h120 h127 h128 h134 h135 h143 h144 h145 (laid_coefA hL)).mono fun e W' ⟨he, bel⟩ => ?_
  subst he
  exact ⟨_, rfl, _, _, _, [], _, [], hW', trodAll_mk1 (shut_bool Tryz.underlying4 _), (trodAll_cons_mk (Below.trod laidOut (by kernel_rfl) (of_decide_eq_true (by kernel_rfl)) k0 bel lt0) trodAll_mk0), rfl, bel.frame _, fun h => by cases h⟩

theorem over : Rows.tinyStepsRow.holds Tryz.pinned (OpenSpec.ofChange Rows.tinyStepsSpec) :=
  OpenClaim.holds_of_wide 5 Tryz.f5 rfl rfl rfl rfl rfl rfl rfl ⟨rfl, rfl, rfl, rfl, rfl⟩ rfl rfl rfl rfl rfl (by kernel_rfl) Tryz.func5 (by kernel_rfl)
    (of_decide_eq_true (by kernel_rfl)) (by unfold Func.isWrapper; first | (rw [if_pos (by decide +kernel)]; kernel_rfl) | (rw [if_neg (by decide +kernel)]; exact ⟨rfl, rfl⟩))
    (fun os started H enc _ => lifted os started H enc)

/-- ████ THE STATEMENT ████ -/
theorem proved : Rows.TinyStepsCardSaid :=
  Claim7.holds_tied_plain_at .later [] [.data, .data, .data, .data] true (true, "3dc94aacdce8c6dc43e6764adbd0436eaf2c3eebc75a6364b70c315648843833") false
    over (fun _ h => by cases h) (by kernel_rfl) (fun _ h => by cases h) tinySteps_row_tie rfl ⟨rfl, rfl⟩ (by kernel_rfl) rfl
    (fun f fn hf hfn => by
      obtain rfl : f = 5 := Option.some.inj ((show Tryz.prog.funcNamed "wringer/wringerlaw19.TinySteps" = some 5 by kernel_rfl).symm.trans hf) |>.symm
      obtain rfl : fn = Tryz.f5 := (Option.some.inj (Tryz.func5.symm.trans hfn)).symm
      exact ⟨by kernel_rfl, fun j t ht => by
        rw [Tryz.params5] at ht
        have hm : t ∈ [49] := by simpa using Array.mem_of_getElem? ht
        have hall : ([49].all fun u => !Tryz.prog.wantsStandIn u) = true := by kernel_rfl
        exact (show Tryz.prog.wantsStandIn t = false by simpa using List.all_eq_true.1 hall t hm)⟩)
    (by kernel_rfl)
end Go.Proofs.YtaijfigohlkccaaGreatDoor.tinySteps
