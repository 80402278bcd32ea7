/-
  THE STATEMENT TopWrapped, PROVED: WHAT IS SEALED BY A KEY THAT IS ITSELF SEALED is opened by who can open the key (of 5 strings of 60 bytes, a message of 16 to 200; for every input).
-/
import Derived.Test.YtneacgpmjlocjaaGreatDoorRows
import Derived.Test.YtneacgpmjlocjaaGreatDoorCards
import Derived.Test.YtneacgpmjlocjaaGreatDoorTie
import Derived.Test.YtneacgpmjlocjaaGreatDoorZTopWrapped26
import Derived.Test.YtneacgpmjlocjaaGreatDoorZTopWrapped4
import Derived.SevenTiedAt
namespace Go.Proofs.YtneacgpmjlocjaaGreatDoor.topWrapped
open Go Go.ChangeShapes Go.WideShapes Go.ChangeAt Go.RowKit
set_option linter.unusedVariables false
set_option linter.unusedSimpArgs false

theorem own : ownKnob Tryz.prog.godebug = none := by kernel_rfl
theorem laidOut : laidOutB Tryz.prog = true := by kernel_rfl

set_option maxRecDepth 100000 in
theorem lifted (os : Os) (started : os.Started) (H : Type) (enc : TypeId × Value → H) :
    ReturnsInHanded {} Tryz.checked os 4 .any (fun w args => (Rows.topWrappedSpec.pre enc Tryz.prog Tryz.f4 [] false w args ∧ laidMetH Tryz.prog laidA w) ∧ sizedMet enc Tryz.prog Tryz.f4 (OpenSpec.ofChange Rows.topWrappedSpec) false w args)
      (Rows.topWrappedSpec.post enc Tryz.prog Tryz.f4 false true false false) := by
  refine returnsInHanded_of_change_and (C := Tryz.checked) (X := fun w _ => laidMetH Tryz.prog laidA w) (fun _ _ _ hh h => h.of_heap hh) own started (by kernel_rfl) Tryz.func4
    (ChangeSpec.witness_shaped (enc := enc) (C := Tryz.checked) (os := os) (X := fun w _ => laidMetH Tryz.prog laidA w) false (World.doorLaid Tryz.prog 400 os) #[.agg #[.int .i64 0, .slice none 0 0, .int .i64 0, .slice none 0 0, .int .i64 0, .slice none 0 0, .slice none 0 0, .int .i64 0, .slice none 0 0, .slice none 0 0, .slice none 0 0]] 8 rfl (World.shaped_of_RefB (by kernel_rfl) (by kernel_rfl)) (by kernel_rfl) (by kernel_rfl) (by kernel_rfl) (door_metA os _)) ?_
  intro W base args ds gs before hval0 hW _ _ hL _
  have hval : ∀ (j : Nat) t v, Tryz.f4.params[j]? = some t → args[j]? = some v → Value.okWide Tryz.prog W .any base t v := hval0
  have hW' := hW
  obtain ⟨p, q, hA0, hV, rfl, hfz, hnd⟩ := hW
  have hA : DataW.TrodAll enc Tryz.prog W 0 (fun _ => true) true Tryz.f4.params.toList args.toList ds p := hA0
  rw [Tryz.params4] at hA hval
  obtain ⟨v0, vs0, d0, ds0, p0, q0, hargs, rfl, rfl, h0, r0⟩ := trodAll_cons hA
  obtain ⟨rfl, rfl, rfl⟩ := trodAll_nil r0
  obtain rfl : args = #[v0] := by cases args; simp_all
  obtain ⟨rfl, rfl⟩ := trodVars_none hV
  have k0 := h0
  have lt0 : ∀ x ∈ p0, x.block < W.heap.size := by obtain ⟨m, hm⟩ := k0; exact DataW.trod_lt m _ _ _ hm
  obtain ⟨cs101, rfl, t102⟩ := val_agg (by kernel_rfl) (hval 0 52 v0 rfl rfl) h0
  obtain ⟨h103, f104⟩ := (t102).struct Tryz.underlying52 (by kernel_rfl) (m := 11)
  obtain ⟨cs106, e107⟩ : ∃ c, c = (cs101.drop 0).take 2 := ⟨_, rfl⟩
  have t108 : Trd enc Tryz.prog W 24 cs106 := e107 ▸ Trd.field f104 (i := 0) (off := 0) (n := 2) (by kernel_rfl) (by kernel_rfl)
  obtain ⟨h109, f110⟩ := (t108).struct Tryz.underlying24 (by kernel_rfl) (m := 2)
  obtain ⟨cs112, e113⟩ : ∃ c, c = (cs106.drop 0).take 1 := ⟨_, rfl⟩
  have t114 : Trd enc Tryz.prog W 3 cs112 := e113 ▸ Trd.field f110 (i := 0) (off := 0) (n := 1) (by kernel_rfl) (by kernel_rfl)
  obtain ⟨n115, e116, h117, h118⟩ := (t114).i64 Tryz.underlying3
  obtain ⟨cs119, e120⟩ : ∃ c, c = (cs106.drop 1).take 1 := ⟨_, rfl⟩
  have t121 : Trd enc Tryz.prog W 22 cs119 := e120 ▸ Trd.field f110 (i := 1) (off := 1) (n := 1) (by kernel_rfl) (by kernel_rfl)
  obtain ⟨p122, l123, c124, e125, h126, h127, h128⟩ := (t121).bytes Tryz.underlying22 Tryz.underlying5 (by kernel_rfl)
  have g129 : cs106 = ([.int .i64 n115]) ++ (([.slice p122 l123.length c124])) := by
    conv => lhs; rw [← List.drop_zero (l := cs106)]
    rw [glue cs106 0 1, show cs106.drop (0 + 1) = cs106.drop 1 from rfl, ← e113, e116, glue cs106 1 1, show cs106.drop (1 + 1) = cs106.drop 2 from rfl, ← e120, e125, List.drop_eq_nil_of_le (Nat.le_of_eq h109), List.append_nil]
  obtain ⟨cs130, e131⟩ : ∃ c, c = (cs101.drop 2).take 2 := ⟨_, rfl⟩
  have t132 : Trd enc Tryz.prog W 24 cs130 := e131 ▸ Trd.field f104 (i := 1) (off := 2) (n := 2) (by kernel_rfl) (by kernel_rfl)
  obtain ⟨h133, f134⟩ := (t132).struct Tryz.underlying24 (by kernel_rfl) (m := 2)
  obtain ⟨cs136, e137⟩ : ∃ c, c = (cs130.drop 0).take 1 := ⟨_, rfl⟩
  have t138 : Trd enc Tryz.prog W 3 cs136 := e137 ▸ Trd.field f134 (i := 0) (off := 0) (n := 1) (by kernel_rfl) (by kernel_rfl)
  obtain ⟨n139, e140, h141, h142⟩ := (t138).i64 Tryz.underlying3
  obtain ⟨cs143, e144⟩ : ∃ c, c = (cs130.drop 1).take 1 := ⟨_, rfl⟩
  have t145 : Trd enc Tryz.prog W 22 cs143 := e144 ▸ Trd.field f134 (i := 1) (off := 1) (n := 1) (by kernel_rfl) (by kernel_rfl)
  obtain ⟨p146, l147, c148, e149, h150, h151, h152⟩ := (t145).bytes Tryz.underlying22 Tryz.underlying5 (by kernel_rfl)
  have g153 : cs130 = ([.int .i64 n139]) ++ (([.slice p146 l147.length c148])) := by
    conv => lhs; rw [← List.drop_zero (l := cs130)]
    rw [glue cs130 0 1, show cs130.drop (0 + 1) = cs130.drop 1 from rfl, ← e137, e140, glue cs130 1 1, show cs130.drop (1 + 1) = cs130.drop 2 from rfl, ← e144, e149, List.drop_eq_nil_of_le (Nat.le_of_eq h133), List.append_nil]
  obtain ⟨cs154, e155⟩ : ∃ c, c = (cs101.drop 4).take 3 := ⟨_, rfl⟩
  have t156 : Trd enc Tryz.prog W 50 cs154 := e155 ▸ Trd.field f104 (i := 2) (off := 4) (n := 3) (by kernel_rfl) (by kernel_rfl)
  obtain ⟨h157, f158⟩ := (t156).struct Tryz.underlying50 (by kernel_rfl) (m := 3)
  obtain ⟨cs160, e161⟩ : ∃ c, c = (cs154.drop 0).take 1 := ⟨_, rfl⟩
  have t162 : Trd enc Tryz.prog W 3 cs160 := e161 ▸ Trd.field f158 (i := 0) (off := 0) (n := 1) (by kernel_rfl) (by kernel_rfl)
  obtain ⟨n163, e164, h165, h166⟩ := (t162).i64 Tryz.underlying3
  obtain ⟨cs167, e168⟩ : ∃ c, c = (cs154.drop 1).take 1 := ⟨_, rfl⟩
  have t169 : Trd enc Tryz.prog W 22 cs167 := e168 ▸ Trd.field f158 (i := 1) (off := 1) (n := 1) (by kernel_rfl) (by kernel_rfl)
  obtain ⟨p170, l171, c172, e173, h174, h175, h176⟩ := (t169).bytes Tryz.underlying22 Tryz.underlying5 (by kernel_rfl)
  obtain ⟨cs177, e178⟩ : ∃ c, c = (cs154.drop 2).take 1 := ⟨_, rfl⟩
  have t179 : Trd enc Tryz.prog W 48 cs177 := e178 ▸ Trd.field f158 (i := 2) (off := 2) (n := 1) (by kernel_rfl) (by kernel_rfl)
  obtain ⟨p180, l181, c182, e183, h184, h185, h186⟩ := (t179).rows Tryz.underlying48 Tryz.underlying22 Tryz.underlying5 (by kernel_rfl) (by kernel_rfl)
  have g187 : cs154 = ([.int .i64 n163]) ++ (([.slice p170 l171.length c172]) ++ (([.slice p180 l181.length c182]))) := by
    conv => lhs; rw [← List.drop_zero (l := cs154)]
    rw [glue cs154 0 1, show cs154.drop (0 + 1) = cs154.drop 1 from rfl, ← e161, e164, glue cs154 1 1, show cs154.drop (1 + 1) = cs154.drop 2 from rfl, ← e168, e173, glue cs154 2 1, show cs154.drop (2 + 1) = cs154.drop 3 from rfl, ← e178, e183, List.drop_eq_nil_of_le (Nat.le_of_eq h157), List.append_nil]
  obtain ⟨cs188, e189⟩ : ∃ c, c = (cs101.drop 7).take 3 := ⟨_, rfl⟩
  have t190 : Trd enc Tryz.prog W 50 cs188 := e189 ▸ Trd.field f104 (i := 3) (off := 7) (n := 3) (by kernel_rfl) (by kernel_rfl)
  obtain ⟨h191, f192⟩ := (t190).struct Tryz.underlying50 (by kernel_rfl) (m := 3)
  obtain ⟨cs194, e195⟩ : ∃ c, c = (cs188.drop 0).take 1 := ⟨_, rfl⟩
  have t196 : Trd enc Tryz.prog W 3 cs194 := e195 ▸ Trd.field f192 (i := 0) (off := 0) (n := 1) (by kernel_rfl) (by kernel_rfl)
  obtain ⟨n197, e198, h199, h200⟩ := (t196).i64 Tryz.underlying3
  obtain ⟨cs201, e202⟩ : ∃ c, c = (cs188.drop 1).take 1 := ⟨_, rfl⟩
  have t203 : Trd enc Tryz.prog W 22 cs201 := e202 ▸ Trd.field f192 (i := 1) (off := 1) (n := 1) (by kernel_rfl) (by kernel_rfl)
  obtain ⟨p204, l205, c206, e207, h208, h209, h210⟩ := (t203).bytes Tryz.underlying22 Tryz.underlying5 (by kernel_rfl)
  obtain ⟨cs211, e212⟩ : ∃ c, c = (cs188.drop 2).take 1 := ⟨_, rfl⟩
  have t213 : Trd enc Tryz.prog W 48 cs211 := e212 ▸ Trd.field f192 (i := 2) (off := 2) (n := 1) (by kernel_rfl) (by kernel_rfl)
  obtain ⟨p214, l215, c216, e217, h218, h219, h220⟩ := (t213).rows Tryz.underlying48 Tryz.underlying22 Tryz.underlying5 (by kernel_rfl) (by kernel_rfl)
  have g221 : cs188 = ([.int .i64 n197]) ++ (([.slice p204 l205.length c206]) ++ (([.slice p214 l215.length c216]))) := by
    conv => lhs; rw [← List.drop_zero (l := cs188)]
    rw [glue cs188 0 1, show cs188.drop (0 + 1) = cs188.drop 1 from rfl, ← e195, e198, glue cs188 1 1, show cs188.drop (1 + 1) = cs188.drop 2 from rfl, ← e202, e207, glue cs188 2 1, show cs188.drop (2 + 1) = cs188.drop 3 from rfl, ← e212, e217, List.drop_eq_nil_of_le (Nat.le_of_eq h191), List.append_nil]
  obtain ⟨cs222, e223⟩ : ∃ c, c = (cs101.drop 10).take 1 := ⟨_, rfl⟩
  have t224 : Trd enc Tryz.prog W 22 cs222 := e223 ▸ Trd.field f104 (i := 4) (off := 10) (n := 1) (by kernel_rfl) (by kernel_rfl)
  obtain ⟨p225, l226, c227, e228, h229, h230, h231⟩ := (t224).bytes Tryz.underlying22 Tryz.underlying5 (by kernel_rfl)
  have g232 : cs101 = (([.int .i64 n115]) ++ (([.slice p122 l123.length c124]))) ++ ((([.int .i64 n139]) ++ (([.slice p146 l147.length c148]))) ++ ((([.int .i64 n163]) ++ (([.slice p170 l171.length c172]) ++ (([.slice p180 l181.length c182])))) ++ ((([.int .i64 n197]) ++ (([.slice p204 l205.length c206]) ++ (([.slice p214 l215.length c216])))) ++ (([.slice p225 l226.length c227]))))) := by
    conv => lhs; rw [← List.drop_zero (l := cs101)]
    rw [glue cs101 0 2, show cs101.drop (0 + 2) = cs101.drop 2 from rfl, ← e107, g129, glue cs101 2 2, show cs101.drop (2 + 2) = cs101.drop 4 from rfl, ← e131, g153, glue cs101 4 3, show cs101.drop (4 + 3) = cs101.drop 7 from rfl, ← e155, g187, glue cs101 7 3, show cs101.drop (7 + 3) = cs101.drop 10 from rfl, ← e189, g221, glue cs101 10 1, show cs101.drop (10 + 1) = cs101.drop 11 from rfl, ← e223, e228, List.drop_eq_nil_of_le (Nat.le_of_eq h103), List.append_nil]
  subst g232
  clear hA0 hval0
  refine (wrap_walk n115 l123 p122 c124 n139 l147 p146 c148 n163 l171 p170 c172 l181 p180 c182 n197 l205 p204 c206 l215 p214 c216 l226 p225 c227 W h117 h118 h126 h127 h128 h141 h142 h150 h151 h152 h165 h166 h174 h175 h176 h184 h185 h186 h199 h200 h208 h209 h210 h218 h219 h220 h229 h230 h231 (laid_coefA hL)).mono fun e W' ⟨he, bel⟩ => ?_
  subst he
  exact ⟨_, rfl, _, _, _, [], _, [], hW', trodAll_mk1 (shut_bool Tryz.underlying4 _), (trodAll_cons_mk (Below.trod laidOut (by kernel_rfl) (of_decide_eq_true (by kernel_rfl)) k0 bel lt0) trodAll_mk0), rfl, bel.frame _, fun h => by cases h⟩

theorem over : Rows.topWrappedRow.holds Tryz.pinned (OpenSpec.ofChange Rows.topWrappedSpec) :=
  OpenClaim.holds_of_wide 4 Tryz.f4 rfl rfl rfl rfl rfl rfl rfl ⟨rfl, rfl, rfl, rfl, rfl⟩ rfl rfl rfl rfl rfl (by kernel_rfl) Tryz.func4 (by kernel_rfl)
    (of_decide_eq_true (by kernel_rfl)) (by unfold Func.isWrapper; first | (rw [if_pos (by decide +kernel)]; kernel_rfl) | (rw [if_neg (by decide +kernel)]; exact ⟨rfl, rfl⟩))
    (fun os started H enc _ => lifted os started H enc)

/-- ████ THE STATEMENT ████ -/
theorem proved : Rows.TopWrappedCardSaid :=
  Claim7.holds_tied_plain_at .later [] [.data, .data, .data, .data] true (true, "75bb7efd0546c7067de4497cb6920bd3732ab682747ce154aeab34c8a3fbbcfd") true
    over (fun _ h => by cases h) (by kernel_rfl) (fun _ h => by cases h) topWrapped_row_tie rfl ⟨rfl, rfl⟩ (by kernel_rfl) rfl
    (fun f fn hf hfn => by
      obtain rfl : f = 4 := Option.some.inj ((show Tryz.prog.funcNamed "wringer/wringertop.TopWrapped" = some 4 by kernel_rfl).symm.trans hf) |>.symm
      obtain rfl : fn = Tryz.f4 := (Option.some.inj (Tryz.func4.symm.trans hfn)).symm
      exact ⟨by kernel_rfl, fun j t ht => by
        rw [Tryz.params4] at ht
        have hm : t ∈ [52] := by simpa using Array.mem_of_getElem? ht
        have hall : ([52].all fun u => !Tryz.prog.wantsStandIn u) = true := by kernel_rfl
        exact (show Tryz.prog.wantsStandIn t = false by simpa using List.all_eq_true.1 hall t hm)⟩)
    (by kernel_rfl)
end Go.Proofs.YtneacgpmjlocjaaGreatDoor.topWrapped
