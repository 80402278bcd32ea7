/-
  THE STATEMENT CoreTurns, PROVED: Any message with any row, enciphered or deciphered by the program, is what the document's own reckoning brings, or is too short, whatever key.
-/
import Derived.Test.YtaijfigohlkccaaGreatDoorRows
import Derived.Test.YtaijfigohlkccaaGreatDoorCards
import Derived.Test.YtaijfigohlkccaaGreatDoorTie
import Derived.Test.YtaijfigohlkccaaGreatDoorZCoreTurns32
import Derived.Test.YtaijfigohlkccaaGreatDoorZCoreTurns6
import Derived.SevenTiedAt
namespace Go.Proofs.YtaijfigohlkccaaGreatDoor.coreTurns
open Go Go.ChangeShapes Go.WideShapes Go.ChangeAt Go.RowKit
set_option linter.unusedVariables false
set_option linter.unusedSimpArgs false

theorem own : ownKnob Tryz.prog.godebug = none := by kernel_rfl
theorem laidOut : laidOutB Tryz.prog = true := by kernel_rfl

set_option maxRecDepth 100000 in
theorem lifted (os : Os) (started : os.Started) (H : Type) (enc : TypeId × Value → H) :
    ReturnsInHanded {} Tryz.checked os 3 .any (fun w args => (Rows.coreTurnsSpec.pre enc Tryz.prog Tryz.f3 [] false w args ∧ laidMetH Tryz.prog laidA w) ∧ sizedMet enc Tryz.prog Tryz.f3 (OpenSpec.ofChange Rows.coreTurnsSpec) false w args)
      (Rows.coreTurnsSpec.post enc Tryz.prog Tryz.f3 false true false false) := by
  refine returnsInHanded_of_change_and (C := Tryz.checked) (X := fun w _ => laidMetH Tryz.prog laidA w) (fun _ _ _ hh h => h.of_heap hh) own started (by kernel_rfl) Tryz.func3
    (ChangeSpec.witness_shaped (enc := enc) (C := Tryz.checked) (os := os) (X := fun w _ => laidMetH Tryz.prog laidA w) false (World.doorLaid Tryz.prog 400 os) #[.agg #[.slice none 0 0, .slice none 0 0, .slice none 0 0, .bool false]] 8 rfl (World.shaped_of_RefB (by kernel_rfl) (by kernel_rfl)) (by kernel_rfl) (by kernel_rfl) (by kernel_rfl) (door_metA os _)) ?_
  intro W base args ds gs before hval0 hW _ _ hL _
  have hval : ∀ (j : Nat) t v, Tryz.f3.params[j]? = some t → args[j]? = some v → Value.okWide Tryz.prog W .any base t v := hval0
  have hW' := hW
  obtain ⟨p, q, hA0, hV, rfl, hfz, hnd⟩ := hW
  have hA : DataW.TrodAll enc Tryz.prog W 0 (fun _ => true) true Tryz.f3.params.toList args.toList ds p := hA0
  rw [Tryz.params3] at hA hval
  obtain ⟨v0, vs0, d0, ds0, p0, q0, hargs, rfl, rfl, h0, r0⟩ := trodAll_cons hA
  obtain ⟨rfl, rfl, rfl⟩ := trodAll_nil r0
  obtain rfl : args = #[v0] := by cases args; simp_all
  obtain ⟨rfl, rfl⟩ := trodVars_none hV
  have k0 := h0
  have lt0 : ∀ x ∈ p0, x.block < W.heap.size := by obtain ⟨m, hm⟩ := k0; exact DataW.trod_lt m _ _ _ hm
  obtain ⟨cs101, rfl, t102⟩ := val_agg (by kernel_rfl) (hval 0 25 v0 rfl rfl) h0
  obtain ⟨h103, f104⟩ := (t102).struct Tryz.underlying25 (by kernel_rfl) (m := 4)
  obtain ⟨cs106, e107⟩ : ∃ c, c = (cs101.drop 0).take 1 := ⟨_, rfl⟩
  have t108 : Trd enc Tryz.prog W 22 cs106 := e107 ▸ Trd.field f104 (i := 0) (off := 0) (n := 1) (by kernel_rfl) (by kernel_rfl)
  obtain ⟨p109, l110, c111, e112, h113, h114, h115⟩ := (t108).bytes Tryz.underlying22 Tryz.underlying5 (by kernel_rfl)
  obtain ⟨cs116, e117⟩ : ∃ c, c = (cs101.drop 1).take 1 := ⟨_, rfl⟩
  have t118 : Trd enc Tryz.prog W 23 cs116 := e117 ▸ Trd.field f104 (i := 1) (off := 1) (n := 1) (by kernel_rfl) (by kernel_rfl)
  obtain ⟨p119, l120, c121, e122, h123, h124, h125⟩ := (t118).rows Tryz.underlying23 Tryz.underlying22 Tryz.underlying5 (by kernel_rfl) (by kernel_rfl)
  obtain ⟨cs126, e127⟩ : ∃ c, c = (cs101.drop 2).take 1 := ⟨_, rfl⟩
  have t128 : Trd enc Tryz.prog W 22 cs126 := e127 ▸ Trd.field f104 (i := 2) (off := 2) (n := 1) (by kernel_rfl) (by kernel_rfl)
  obtain ⟨p129, l130, c131, e132, h133, h134, h135⟩ := (t128).bytes Tryz.underlying22 Tryz.underlying5 (by kernel_rfl)
  obtain ⟨cs136, e137⟩ : ∃ c, c = (cs101.drop 3).take 1 := ⟨_, rfl⟩
  have t138 : Trd enc Tryz.prog W 4 cs136 := e137 ▸ Trd.field f104 (i := 3) (off := 3) (n := 1) (by kernel_rfl) (by kernel_rfl)
  obtain ⟨b139, e140⟩ := (t138).bool Tryz.underlying4
  have g141 : cs101 = ([.slice p109 l110.length c111]) ++ (([.slice p119 l120.length c121]) ++ (([.slice p129 l130.length c131]) ++ (([.bool b139])))) := by
    conv => lhs; rw [← List.drop_zero (l := cs101)]
    rw [glue cs101 0 1, show cs101.drop (0 + 1) = cs101.drop 1 from rfl, ← e107, e112, glue cs101 1 1, show cs101.drop (1 + 1) = cs101.drop 2 from rfl, ← e117, e122, glue cs101 2 1, show cs101.drop (2 + 1) = cs101.drop 3 from rfl, ← e127, e132, glue cs101 3 1, show cs101.drop (3 + 1) = cs101.drop 4 from rfl, ← e137, e140, List.drop_eq_nil_of_le (Nat.le_of_eq h103), List.append_nil]
  subst g141
  clear hA0 hval0
  refine (cturns_walk l110 p109 c111 l120 p119 c121 l130 p129 c131 b139 W h113 h114 h115 h123 h124 h125 h133 h134 h135 (laid_coefA hL)).mono fun e W' ⟨he, bel⟩ => ?_
  subst he
  exact ⟨_, rfl, _, _, _, [], _, [], hW', trodAll_mk1 (shut_bool Tryz.underlying4 _), (trodAll_cons_mk (Below.trod laidOut (by kernel_rfl) (of_decide_eq_true (by kernel_rfl)) k0 bel lt0) trodAll_mk0), rfl, bel.frame _, fun h => by cases h⟩

theorem over : Rows.coreTurnsRow.holds Tryz.pinned (OpenSpec.ofChange Rows.coreTurnsSpec) :=
  OpenClaim.holds_of_wide 3 Tryz.f3 rfl rfl rfl rfl rfl rfl rfl ⟨rfl, rfl, rfl, rfl, rfl⟩ rfl rfl rfl rfl rfl (by kernel_rfl) Tryz.func3 (by kernel_rfl)
    (of_decide_eq_true (by kernel_rfl)) (by unfold Func.isWrapper; first | (rw [if_pos (by decide +kernel)]; kernel_rfl) | (rw [if_neg (by decide +kernel)]; exact ⟨rfl, rfl⟩))
    (fun os started H enc _ => lifted os started H enc)

/-- ████ THE STATEMENT ████ -/
theorem proved : Rows.CoreTurnsCardSaid :=
  Claim7.holds_tied_plain_at .later [] [.data, .data, .data, .data] true (true, "3dc94aacdce8c6dc43e6764adbd0436eaf2c3eebc75a6364b70c315648843833") false
    over (fun _ h => by cases h) (by kernel_rfl) (fun _ h => by cases h) coreTurns_row_tie rfl ⟨rfl, rfl⟩ (by kernel_rfl) rfl
    (fun f fn hf hfn => by
      obtain rfl : f = 3 := Option.some.inj ((show Tryz.prog.funcNamed "wringer/wringerlaw20.CoreTurns" = some 3 by kernel_rfl).symm.trans hf) |>.symm
      obtain rfl : fn = Tryz.f3 := (Option.some.inj (Tryz.func3.symm.trans hfn)).symm
      exact ⟨by kernel_rfl, fun j t ht => by
        rw [Tryz.params3] at ht
        have hm : t ∈ [25] := by simpa using Array.mem_of_getElem? ht
        have hall : ([25].all fun u => !Tryz.prog.wantsStandIn u) = true := by kernel_rfl
        exact (show Tryz.prog.wantsStandIn t = false by simpa using List.all_eq_true.1 hall t hm)⟩)
    (by kernel_rfl)
end Go.Proofs.YtaijfigohlkccaaGreatDoor.coreTurns
