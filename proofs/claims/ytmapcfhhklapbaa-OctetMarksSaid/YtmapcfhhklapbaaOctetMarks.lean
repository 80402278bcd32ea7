/-
  THE STATEMENT OctetMarks, PROVED: by the walk of its text. No conditions.
-/
import Derived.Test.YtmapcfhhklapbaaRows
import Derived.Test.YtmapcfhhklapbaaLawMarks
import Derived.Test.YtmapcfhhklapbaaOpen
namespace Go.Proofs.Ytmapcfhhklapbaa.octetMarks
open Go Go.ChangeShapes Go.WideShapes Go.ChangeAt Go.RowKit
set_option linter.unusedVariables false

theorem own : ownKnob Try.prog.godebug = none := by kernel_rfl
theorem laidOut : laidOutB Try.prog = true := by kernel_rfl

set_option maxRecDepth 100000 in
theorem lifted (os : Os) (started : os.Started) (H : Type) (enc : TypeId × Value → H) :
    ReturnsInHanded {} Try.checked os 6 .any (Rows.octetMarksSpec.pre6 enc Try.prog Try.f6 Rows.octetMarksRow.domain false) (Rows.octetMarksSpec.post enc Try.prog Try.f6 false true false false) := by
  refine returnsInHanded_of_change (C := Try.checked) own started (by kernel_rfl) Try.func6
    (ChangeSpec.witness6 (enc := enc) (C := Try.checked) false ⟨#[], #[.agg #[.slice none 0 0, .slice none 0 0, .int .u8 0, .int .i64 0]], []⟩ 8 (by kernel_rfl) (by kernel_rfl) (by kernel_rfl) (by kernel_rfl)) ?_
  intro W base args ds gs before hval0 hW hcnd _
  have hval : ∀ (j : Nat) t v, Try.f6.params[j]? = some t → args[j]? = some v → Value.okWide Try.prog W .any base t v := hval0
  have hW' := hW
  obtain ⟨p, q, hA0, hV, rfl, hfz, hnd⟩ := hW
  have hA : DataW.TrodAll enc Try.prog W 0 (fun _ => true) true Try.f6.params.toList args.toList ds p := hA0
  rw [Try.params6] at hA hval
  obtain ⟨v0, vs0, d0, ds0, p0, q0, hargs, rfl, rfl, h0, r0⟩ := trodAll_cons hA
  obtain ⟨rfl, rfl, rfl⟩ := trodAll_nil r0
  obtain rfl : args = #[v0] := by cases args; simp_all
  obtain ⟨rfl, rfl⟩ := trodVars_none hV
  have k0 := h0
  have lt0 : ∀ x ∈ p0, x.block < W.heap.size := by obtain ⟨m, hm⟩ := k0; exact DataW.trod_lt m _ _ _ hm
  obtain ⟨cs1, rfl, t2⟩ := val_agg (by kernel_rfl) (hval 0 42 v0 rfl rfl) h0
  obtain ⟨h3, f4⟩ := (t2).struct Try.underlying42 (by kernel_rfl) (m := 4)
  obtain ⟨cs6, e7⟩ : ∃ c, c = (cs1.drop 0).take 1 := ⟨_, rfl⟩
  have t8 : Trd enc Try.prog W 22 cs6 := e7 ▸ Trd.field f4 (i := 0) (off := 0) (n := 1) (by kernel_rfl) (by kernel_rfl)
  obtain ⟨p9, l10, c11, e12, h13, h14, h15⟩ := (t8).bytes Try.underlying22 Try.underlying5 (by kernel_rfl)
  obtain ⟨cs16, e17⟩ : ∃ c, c = (cs1.drop 1).take 1 := ⟨_, rfl⟩
  have t18 : Trd enc Try.prog W 22 cs16 := e17 ▸ Trd.field f4 (i := 1) (off := 1) (n := 1) (by kernel_rfl) (by kernel_rfl)
  obtain ⟨p19, l20, c21, e22, h23, h24, h25⟩ := (t18).bytes Try.underlying22 Try.underlying5 (by kernel_rfl)
  obtain ⟨cs26, e27⟩ : ∃ c, c = (cs1.drop 2).take 1 := ⟨_, rfl⟩
  have t28 : Trd enc Try.prog W 5 cs26 := e27 ▸ Trd.field f4 (i := 2) (off := 2) (n := 1) (by kernel_rfl) (by kernel_rfl)
  obtain ⟨x29, e30⟩ := (t28).u8 Try.underlying5
  obtain ⟨cs31, e32⟩ : ∃ c, c = (cs1.drop 3).take 1 := ⟨_, rfl⟩
  have t33 : Trd enc Try.prog W 3 cs31 := e32 ▸ Trd.field f4 (i := 3) (off := 3) (n := 1) (by kernel_rfl) (by kernel_rfl)
  obtain ⟨n34, e35, h36, h37⟩ := (t33).i64 Try.underlying3
  have g38 : cs1 = ([.slice p9 l10.length c11]) ++ (([.slice p19 l20.length c21]) ++ (([v8 x29]) ++ (([.int .i64 n34])))) := by
    conv => lhs; rw [← List.drop_zero (l := cs1)]
    rw [glue cs1 0 1, show cs1.drop (0 + 1) = cs1.drop 1 from rfl, ← e7, e12, glue cs1 1 1, show cs1.drop (1 + 1) = cs1.drop 2 from rfl, ← e17, e22, glue cs1 2 1, show cs1.drop (2 + 1) = cs1.drop 3 from rfl, ← e27, e30, glue cs1 3 1, show cs1.drop (3 + 1) = cs1.drop 4 from rfl, ← e32, e35, List.drop_eq_nil_of_le (Nat.le_of_eq h3), List.append_nil]
  subst g38
  clear hA0 hval0
  refine (marks_walk l10 p9 c11 l20 p19 c21 x29 n34 W h13 h14 h15 h23 h24 h25 h36 h37).mono fun e W' ⟨he, bel⟩ => ?_
  subst he
  exact ⟨_, rfl, _, _, _, [], _, [], hW', trodAll_mk1 (shut_bool Try.underlying4 _), (trodAll_cons_mk (Below.trod laidOut (by kernel_rfl) (of_decide_eq_true (by kernel_rfl)) k0 bel lt0) trodAll_mk0), rfl, bel.frame _, fun h => by cases h⟩

theorem over : Rows.octetMarksRow.holds Try.pinned (OpenSpec.ofChange Rows.octetMarksSpec) :=
  OpenClaim.holds_of_wide 6 Try.f6 rfl rfl rfl rfl rfl rfl rfl ⟨rfl, rfl, rfl, rfl, rfl⟩ rfl rfl rfl rfl rfl (by kernel_rfl) Try.func6 (by kernel_rfl)
    (of_decide_eq_true (by kernel_rfl)) (by unfold Func.isWrapper; first | (rw [if_pos (by decide +kernel)]; kernel_rfl) | (rw [if_neg (by decide +kernel)]; exact ⟨rfl, rfl⟩))
    (fun os started H enc _ => lifted os started H enc)

/-- ████ THE STATEMENT ████ -/
theorem proved : Rows.OctetMarksSaid := over
end Go.Proofs.Ytmapcfhhklapbaa.octetMarks
