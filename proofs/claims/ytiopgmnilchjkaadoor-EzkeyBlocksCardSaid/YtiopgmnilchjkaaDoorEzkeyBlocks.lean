/-
  THE STATEMENT EzkeyBlocks, PROVED: the offset of any two numbers and what E tells of any block are as the document says, at every key, every two numbers and every block.
-/
import Derived.Test.YtiopgmnilchjkaaDoorRows
import Derived.Test.YtiopgmnilchjkaaDoorCards
import Derived.Test.YtiopgmnilchjkaaDoorTie
import Derived.Test.YtiopgmnilchjkaaDoorLawEz3
import Derived.Test.YtiopgmnilchjkaaDoorLaidA
import Derived.Test.YtiopgmnilchjkaaDoorOpen
import Derived.SevenTiedAt
namespace Go.Proofs.YtiopgmnilchjkaaDoor.ezkeyBlocks
open Go Go.ChangeShapes Go.WideShapes Go.ChangeAt Go.RowKit
set_option linter.unusedVariables false
set_option linter.unusedSimpArgs false

theorem own : ownKnob Tryd.prog.godebug = none := by kernel_rfl
theorem laidOut : laidOutB Tryd.prog = true := by kernel_rfl

set_option maxRecDepth 100000 in
theorem lifted (os : Os) (started : os.Started) (H : Type) (enc : TypeId × Value → H) :
    ReturnsInHanded {} Tryd.checked os 4 .any (fun w args => (Rows.ezkeyBlocksSpec.pre enc Tryd.prog Tryd.f4 [] false w args ∧ laidMetH Tryd.prog laidA w) ∧ sizedMet enc Tryd.prog Tryd.f4 (OpenSpec.ofChange Rows.ezkeyBlocksSpec) false w args)
      (Rows.ezkeyBlocksSpec.post enc Tryd.prog Tryd.f4 false true false false) := by
  refine returnsInHanded_of_change_and (C := Tryd.checked) (X := fun w _ => laidMetH Tryd.prog laidA w) (fun _ _ _ hh h => h.of_heap hh) own started (by kernel_rfl) Tryd.func4
    (ChangeSpec.witness_shaped (enc := enc) (C := Tryd.checked) (os := os) (X := fun w _ => laidMetH Tryd.prog laidA w) false (World.doorLaid Tryd.prog 400 os) #[.agg #[.slice none 0 0, .int .i64 0, .int .i64 0, .int .u8 0, .int .u8 0, .int .u8 0, .int .u8 0, .int .u8 0, .int .u8 0, .int .u8 0, .int .u8 0, .int .u8 0, .int .u8 0, .int .u8 0, .int .u8 0, .int .u8 0, .int .u8 0, .int .u8 0, .int .u8 0]] 8 rfl (World.shaped_of_RefB (by kernel_rfl) (by kernel_rfl)) (by kernel_rfl) (by kernel_rfl) (by kernel_rfl) (door_metA os _)) ?_
  intro W base args ds gs before hval0 hW _ _ hL _
  have hval : ∀ (j : Nat) t v, Tryd.f4.params[j]? = some t → args[j]? = some v → Value.okWide Tryd.prog W .any base t v := hval0
  have hW' := hW
  obtain ⟨p, q, hA0, hV, rfl, hfz, hnd⟩ := hW
  have hA : DataW.TrodAll enc Tryd.prog W 0 (fun _ => true) true Tryd.f4.params.toList args.toList ds p := hA0
  rw [Tryd.params4] at hA hval
  obtain ⟨v0, vs0, d0, ds0, p0, q0, hargs, rfl, rfl, h0, r0⟩ := trodAll_cons hA
  obtain ⟨rfl, rfl, rfl⟩ := trodAll_nil r0
  obtain rfl : args = #[v0] := by cases args; simp_all
  obtain ⟨rfl, rfl⟩ := trodVars_none hV
  have k0 := h0
  have lt0 : ∀ x ∈ p0, x.block < W.heap.size := by obtain ⟨m, hm⟩ := k0; exact DataW.trod_lt m _ _ _ hm
  obtain ⟨cs101, rfl, t102⟩ := val_agg (by kernel_rfl) (hval 0 45 v0 rfl rfl) h0
  obtain ⟨h103, f104⟩ := (t102).struct Tryd.underlying45 (by kernel_rfl) (m := 19)
  obtain ⟨cs106, e107⟩ : ∃ c, c = (cs101.drop 0).take 1 := ⟨_, rfl⟩
  have t108 : Trd enc Tryd.prog W 22 cs106 := e107 ▸ Trd.field f104 (i := 0) (off := 0) (n := 1) (by kernel_rfl) (by kernel_rfl)
  obtain ⟨p109, l110, c111, e112, h113, h114, h115⟩ := (t108).bytes Tryd.underlying22 Tryd.underlying5 (by kernel_rfl)
  obtain ⟨cs116, e117⟩ : ∃ c, c = (cs101.drop 1).take 1 := ⟨_, rfl⟩
  have t118 : Trd enc Tryd.prog W 3 cs116 := e117 ▸ Trd.field f104 (i := 1) (off := 1) (n := 1) (by kernel_rfl) (by kernel_rfl)
  obtain ⟨n119, e120, h121, h122⟩ := (t118).i64 Tryd.underlying3
  obtain ⟨cs123, e124⟩ : ∃ c, c = (cs101.drop 2).take 1 := ⟨_, rfl⟩
  have t125 : Trd enc Tryd.prog W 3 cs123 := e124 ▸ Trd.field f104 (i := 2) (off := 2) (n := 1) (by kernel_rfl) (by kernel_rfl)
  obtain ⟨n126, e127, h128, h129⟩ := (t125).i64 Tryd.underlying3
  obtain ⟨cs130, e131⟩ : ∃ c, c = (cs101.drop 3).take 16 := ⟨_, rfl⟩
  have t132 : Trd enc Tryd.prog W 32 cs130 := e131 ▸ Trd.field f104 (i := 3) (off := 3) (n := 16) (by kernel_rfl) (by kernel_rfl)
  obtain ⟨l133, h134, e135⟩ := (t132).arr8 Tryd.underlying32 Tryd.underlying5 (by kernel_rfl) (by kernel_rfl)
  have g136 : cs101 = ([.slice p109 l110.length c111]) ++ (([.int .i64 n119]) ++ (([.int .i64 n126]) ++ ((l133.map v8)))) := by
    conv => lhs; rw [← List.drop_zero (l := cs101)]
    rw [glue cs101 0 1, show cs101.drop (0 + 1) = cs101.drop 1 from rfl, ← e107, e112, glue cs101 1 1, show cs101.drop (1 + 1) = cs101.drop 2 from rfl, ← e117, e120, glue cs101 2 1, show cs101.drop (2 + 1) = cs101.drop 3 from rfl, ← e124, e127, glue cs101 3 16, show cs101.drop (3 + 16) = cs101.drop 19 from rfl, ← e131, e135, List.drop_eq_nil_of_le (Nat.le_of_eq h103), List.append_nil]
  subst g136
  clear hA0 hval0
  refine (ezblocks_walk l110 p109 c111 n119 n126 l133 W h113 h114 h115 h121 h122 h128 h129 h134 (laid_coefA hL)).mono fun e W' ⟨he, bel⟩ => ?_
  subst he
  exact ⟨_, rfl, _, _, _, [], _, [], hW', trodAll_mk1 (shut_bool Tryd.underlying4 _), (trodAll_cons_mk (Below.trod laidOut (by kernel_rfl) (of_decide_eq_true (by kernel_rfl)) k0 bel lt0) trodAll_mk0), rfl, bel.frame _, fun h => by cases h⟩

theorem over : Rows.ezkeyBlocksRow.holds Tryd.pinned (OpenSpec.ofChange Rows.ezkeyBlocksSpec) :=
  OpenClaim.holds_of_wide 4 Tryd.f4 rfl rfl rfl rfl rfl rfl rfl ⟨rfl, rfl, rfl, rfl, rfl⟩ rfl rfl rfl rfl rfl (by kernel_rfl) Tryd.func4 (by kernel_rfl)
    (of_decide_eq_true (by kernel_rfl)) (by unfold Func.isWrapper; first | (rw [if_pos (by decide +kernel)]; kernel_rfl) | (rw [if_neg (by decide +kernel)]; exact ⟨rfl, rfl⟩))
    (fun os started H enc _ => lifted os started H enc)

/-- ████ THE STATEMENT ████ -/
theorem proved : Rows.EzkeyBlocksCardSaid :=
  Claim7.holds_tied_plain_at .later [] [.data, .data, .data, .data] true (true, "05be8e3493b1e29e191363d8ffa00a8cf032dd8171051e6b7f7aece2c3a96c18") false
    over (fun _ h => by cases h) (by kernel_rfl) (fun _ h => by cases h) ezkeyBlocks_row_tie rfl ⟨rfl, rfl⟩ (by kernel_rfl) rfl
    (fun f fn hf hfn => by
      obtain rfl : f = 4 := Option.some.inj ((show Tryd.prog.funcNamed "wringer/wringerlaw15.EzkeyBlocks" = some 4 by kernel_rfl).symm.trans hf) |>.symm
      obtain rfl : fn = Tryd.f4 := (Option.some.inj (Tryd.func4.symm.trans hfn)).symm
      exact ⟨by kernel_rfl, fun j t ht => by
        rw [Tryd.params4] at ht
        have hm : t ∈ [45] := by simpa using Array.mem_of_getElem? ht
        have hall : ([45].all fun u => !Tryd.prog.wantsStandIn u) = true := by kernel_rfl
        exact (show Tryd.prog.wantsStandIn t = false by simpa using List.all_eq_true.1 hall t hm)⟩)
    (by kernel_rfl)
end Go.Proofs.YtiopgmnilchjkaaDoor.ezkeyBlocks
