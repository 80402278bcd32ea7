/-
  THE STATEMENT TopText, PROVED: A NAME'S TEXT, DECODED AND DECIPHERED WITH THE FOLDER'S NUMBER, IS THE NAME AND NOUGHTS; and the other way round.
-/
import Derived.Test.YtneacgpmjlocjaaGreatDoorRows
import Derived.Test.YtneacgpmjlocjaaGreatDoorCards
import Derived.Test.YtneacgpmjlocjaaGreatDoorTie
import Derived.Test.YtneacgpmjlocjaaGreatDoorZTopText25
import Derived.Test.YtneacgpmjlocjaaGreatDoorZTopText4
import Derived.SevenTiedAt
namespace Go.Proofs.YtneacgpmjlocjaaGreatDoor.topText
open Go Go.ChangeShapes Go.WideShapes Go.ChangeAt Go.RowKit
set_option linter.unusedVariables false
set_option linter.unusedSimpArgs false

theorem own : ownKnob Tryz.prog.godebug = none := by kernel_rfl
theorem laidOut : laidOutB Tryz.prog = true := by kernel_rfl

set_option maxRecDepth 100000 in
theorem lifted (os : Os) (started : os.Started) (H : Type) (enc : TypeId × Value → H) :
    ReturnsInHanded {} Tryz.checked os 3 .any (fun w args => (Rows.topTextSpec.pre enc Tryz.prog Tryz.f3 [] false w args ∧ laidMetH Tryz.prog laidA w) ∧ sizedMet enc Tryz.prog Tryz.f3 (OpenSpec.ofChange Rows.topTextSpec) false w args)
      (Rows.topTextSpec.post enc Tryz.prog Tryz.f3 false true false false) := by
  refine returnsInHanded_of_change_and (C := Tryz.checked) (X := fun w _ => laidMetH Tryz.prog laidA w) (fun _ _ _ hh h => h.of_heap hh) own started (by kernel_rfl) Tryz.func3
    (ChangeSpec.witness_shaped (enc := enc) (C := Tryz.checked) (os := os) (X := fun w _ => laidMetH Tryz.prog laidA w) false (World.doorLaid Tryz.prog 400 os) #[.agg #[.int .i64 0, .slice none 0 0, .int .i64 0, .int .u64 0, .string ⟨#[]⟩]] 8 rfl (World.shaped_of_RefB (by kernel_rfl) (by kernel_rfl)) (by kernel_rfl) (by kernel_rfl) (by kernel_rfl) (door_metA os _)) ?_
  intro W base args ds gs before hval0 hW _ _ hL _
  have hval : ∀ (j : Nat) t v, Tryz.f3.params[j]? = some t → args[j]? = some v → Value.okWide Tryz.prog W .any base t v := hval0
  have hW' := hW
  obtain ⟨p, q, hA0, hV, rfl, hfz, hnd⟩ := hW
  have hA : DataW.TrodAll enc Tryz.prog W 0 (fun _ => true) true Tryz.f3.params.toList args.toList ds p := hA0
  rw [Tryz.params3] at hA hval
  obtain ⟨v0, vs0, d0, ds0, p0, q0, hargs, rfl, rfl, h0, r0⟩ := trodAll_cons hA
  obtain ⟨rfl, rfl, rfl⟩ := trodAll_nil r0
  obtain rfl : args = #[v0] := by cases args; simp_all
  obtain ⟨rfl, rfl⟩ := trodVars_none hV
  have k0 := h0
  have lt0 : ∀ x ∈ p0, x.block < W.heap.size := by obtain ⟨m, hm⟩ := k0; exact DataW.trod_lt m _ _ _ hm
  obtain ⟨cs101, rfl, t102⟩ := val_agg (by kernel_rfl) (hval 0 27 v0 rfl rfl) h0
  obtain ⟨h103, f104⟩ := (t102).struct Tryz.underlying27 (by kernel_rfl) (m := 5)
  obtain ⟨cs106, e107⟩ : ∃ c, c = (cs101.drop 0).take 2 := ⟨_, rfl⟩
  have t108 : Trd enc Tryz.prog W 24 cs106 := e107 ▸ Trd.field f104 (i := 0) (off := 0) (n := 2) (by kernel_rfl) (by kernel_rfl)
  obtain ⟨h109, f110⟩ := (t108).struct Tryz.underlying24 (by kernel_rfl) (m := 2)
  obtain ⟨cs112, e113⟩ : ∃ c, c = (cs106.drop 0).take 1 := ⟨_, rfl⟩
  have t114 : Trd enc Tryz.prog W 3 cs112 := e113 ▸ Trd.field f110 (i := 0) (off := 0) (n := 1) (by kernel_rfl) (by kernel_rfl)
  obtain ⟨n115, e116, h117, h118⟩ := (t114).i64 Tryz.underlying3
  obtain ⟨cs119, e120⟩ : ∃ c, c = (cs106.drop 1).take 1 := ⟨_, rfl⟩
  have t121 : Trd enc Tryz.prog W 22 cs119 := e120 ▸ Trd.field f110 (i := 1) (off := 1) (n := 1) (by kernel_rfl) (by kernel_rfl)
  obtain ⟨p122, l123, c124, e125, h126, h127, h128⟩ := (t121).bytes Tryz.underlying22 Tryz.underlying5 (by kernel_rfl)
  have g129 : cs106 = ([.int .i64 n115]) ++ (([.slice p122 l123.length c124])) := by
    conv => lhs; rw [← List.drop_zero (l := cs106)]
    rw [glue cs106 0 1, show cs106.drop (0 + 1) = cs106.drop 1 from rfl, ← e113, e116, glue cs106 1 1, show cs106.drop (1 + 1) = cs106.drop 2 from rfl, ← e120, e125, List.drop_eq_nil_of_le (Nat.le_of_eq h109), List.append_nil]
  obtain ⟨cs130, e131⟩ : ∃ c, c = (cs101.drop 2).take 1 := ⟨_, rfl⟩
  have t132 : Trd enc Tryz.prog W 3 cs130 := e131 ▸ Trd.field f104 (i := 1) (off := 2) (n := 1) (by kernel_rfl) (by kernel_rfl)
  obtain ⟨n133, e134, h135, h136⟩ := (t132).i64 Tryz.underlying3
  obtain ⟨cs137, e138⟩ : ∃ c, c = (cs101.drop 3).take 1 := ⟨_, rfl⟩
  have t139 : Trd enc Tryz.prog W 25 cs137 := e138 ▸ Trd.field f104 (i := 2) (off := 3) (n := 1) (by kernel_rfl) (by kernel_rfl)
  obtain ⟨x140, e141⟩ := (t139).u64 Tryz.underlying25
  obtain ⟨cs142, e143⟩ : ∃ c, c = (cs101.drop 4).take 1 := ⟨_, rfl⟩
  have t144 : Trd enc Tryz.prog W 9 cs142 := e143 ▸ Trd.field f104 (i := 3) (off := 4) (n := 1) (by kernel_rfl) (by kernel_rfl)
  obtain ⟨s145, e146, h147⟩ := (t144).str Tryz.underlying9
  have g148 : cs101 = (([.int .i64 n115]) ++ (([.slice p122 l123.length c124]))) ++ (([.int .i64 n133]) ++ (([v64 x140]) ++ (([.string s145])))) := by
    conv => lhs; rw [← List.drop_zero (l := cs101)]
    rw [glue cs101 0 2, show cs101.drop (0 + 2) = cs101.drop 2 from rfl, ← e107, g129, glue cs101 2 1, show cs101.drop (2 + 1) = cs101.drop 3 from rfl, ← e131, e134, glue cs101 3 1, show cs101.drop (3 + 1) = cs101.drop 4 from rfl, ← e138, e141, glue cs101 4 1, show cs101.drop (4 + 1) = cs101.drop 5 from rfl, ← e143, e146, List.drop_eq_nil_of_le (Nat.le_of_eq h103), List.append_nil]
  subst g148
  clear hA0 hval0
  refine (text_walk n115 l123 p122 c124 n133 x140 s145 W h117 h118 h126 h127 h128 h135 h136 h147 (laid_coefA hL)).mono fun e W' ⟨he, bel⟩ => ?_
  subst he
  exact ⟨_, rfl, _, _, _, [], _, [], hW', trodAll_mk1 (shut_bool Tryz.underlying4 _), (trodAll_cons_mk (Below.trod laidOut (by kernel_rfl) (of_decide_eq_true (by kernel_rfl)) k0 bel lt0) trodAll_mk0), rfl, bel.frame _, fun h => by cases h⟩

theorem over : Rows.topTextRow.holds Tryz.pinned (OpenSpec.ofChange Rows.topTextSpec) :=
  OpenClaim.holds_of_wide 3 Tryz.f3 rfl rfl rfl rfl rfl rfl rfl ⟨rfl, rfl, rfl, rfl, rfl⟩ rfl rfl rfl rfl rfl (by kernel_rfl) Tryz.func3 (by kernel_rfl)
    (of_decide_eq_true (by kernel_rfl)) (by unfold Func.isWrapper; first | (rw [if_pos (by decide +kernel)]; kernel_rfl) | (rw [if_neg (by decide +kernel)]; exact ⟨rfl, rfl⟩))
    (fun os started H enc _ => lifted os started H enc)

/-- ████ THE STATEMENT ████ -/
theorem proved : Rows.TopTextCardSaid :=
  Claim7.holds_tied_plain_at .later [] [.data, .data, .data, .data] true (true, "75bb7efd0546c7067de4497cb6920bd3732ab682747ce154aeab34c8a3fbbcfd") true
    over (fun _ h => by cases h) (by kernel_rfl) (fun _ h => by cases h) topText_row_tie rfl ⟨rfl, rfl⟩ (by kernel_rfl) rfl
    (fun f fn hf hfn => by
      obtain rfl : f = 3 := Option.some.inj ((show Tryz.prog.funcNamed "wringer/wringertop.TopText" = some 3 by kernel_rfl).symm.trans hf) |>.symm
      obtain rfl : fn = Tryz.f3 := (Option.some.inj (Tryz.func3.symm.trans hfn)).symm
      exact ⟨by kernel_rfl, fun j t ht => by
        rw [Tryz.params3] at ht
        have hm : t ∈ [27] := by simpa using Array.mem_of_getElem? ht
        have hall : ([27].all fun u => !Tryz.prog.wantsStandIn u) = true := by kernel_rfl
        exact (show Tryz.prog.wantsStandIn t = false by simpa using List.all_eq_true.1 hall t hm)⟩)
    (by kernel_rfl)
end Go.Proofs.YtneacgpmjlocjaaGreatDoor.topText
