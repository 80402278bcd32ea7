/-
  THE STATEMENT OctetGroup, PROVED: by the walk of its text. No conditions.
-/
import Derived.Test.YtmapcfhhklapbaaRows
import Derived.Test.YtmapcfhhklapbaaLawGroup
import Derived.Test.YtmapcfhhklapbaaOpen
namespace Go.Proofs.Ytmapcfhhklapbaa.octetGroup
open Go Go.ChangeShapes Go.WideShapes Go.ChangeAt Go.RowKit
set_option linter.unusedVariables false

theorem own : ownKnob Try.prog.godebug = none := by kernel_rfl
theorem laidOut : laidOutB Try.prog = true := by kernel_rfl

set_option maxRecDepth 100000 in
theorem lifted (os : Os) (started : os.Started) (H : Type) (enc : TypeId × Value → H) :
    ReturnsInHanded {} Try.checked os 10 .any (Rows.octetGroupSpec.pre6 enc Try.prog Try.f10 Rows.octetGroupRow.domain false) (Rows.octetGroupSpec.post enc Try.prog Try.f10 false true false false) := by
  refine returnsInHanded_of_change (C := Try.checked) own started (by kernel_rfl) Try.func10
    (ChangeSpec.witness6 (enc := enc) (C := Try.checked) false ⟨#[], #[.agg #[.int .u64 0, .int .u64 0], .agg #[.int .u64 0, .int .u64 0], .agg #[.int .u64 0, .int .u64 0]], []⟩ 8 (by kernel_rfl) (by kernel_rfl) (by kernel_rfl) (by kernel_rfl)) ?_
  intro W base args ds gs before hval0 hW hcnd _
  have hval : ∀ (j : Nat) t v, Try.f10.params[j]? = some t → args[j]? = some v → Value.okWide Try.prog W .any base t v := hval0
  have hW' := hW
  obtain ⟨p, q, hA0, hV, rfl, hfz, hnd⟩ := hW
  have hA : DataW.TrodAll enc Try.prog W 0 (fun _ => true) true Try.f10.params.toList args.toList ds p := hA0
  rw [Try.params10] at hA hval
  obtain ⟨v0, vs0, d0, ds0, p0, q0, hargs, rfl, rfl, h0, r0⟩ := trodAll_cons hA
  obtain ⟨v1, vs1, d1, ds1, p1, q1, rfl, rfl, rfl, h1, r1⟩ := trodAll_cons r0
  obtain ⟨v2, vs2, d2, ds2, p2, q2, rfl, rfl, rfl, h2, r2⟩ := trodAll_cons r1
  obtain ⟨rfl, rfl, rfl⟩ := trodAll_nil r2
  obtain rfl : args = #[v0, v1, v2] := by cases args; simp_all
  obtain ⟨rfl, rfl⟩ := trodVars_none hV
  have k0 := h0
  have lt0 : ∀ x ∈ p0, x.block < W.heap.size := by obtain ⟨m, hm⟩ := k0; exact DataW.trod_lt m _ _ _ hm
  obtain ⟨cs1, rfl, t2⟩ := val_agg (by kernel_rfl) (hval 0 30 v0 rfl rfl) h0
  obtain ⟨h3, f4⟩ := (t2).struct Try.underlying30 (by kernel_rfl) (m := 2)
  obtain ⟨cs6, e7⟩ : ∃ c, c = (cs1.drop 0).take 1 := ⟨_, rfl⟩
  have t8 : Trd enc Try.prog W 26 cs6 := e7 ▸ Trd.field f4 (i := 0) (off := 0) (n := 1) (by kernel_rfl) (by kernel_rfl)
  obtain ⟨x9, e10⟩ := (t8).u64 Try.underlying26
  obtain ⟨cs11, e12⟩ : ∃ c, c = (cs1.drop 1).take 1 := ⟨_, rfl⟩
  have t13 : Trd enc Try.prog W 26 cs11 := e12 ▸ Trd.field f4 (i := 1) (off := 1) (n := 1) (by kernel_rfl) (by kernel_rfl)
  obtain ⟨x14, e15⟩ := (t13).u64 Try.underlying26
  have g16 : cs1 = ([v64 x9]) ++ (([v64 x14])) := by
    conv => lhs; rw [← List.drop_zero (l := cs1)]
    rw [glue cs1 0 1, show cs1.drop (0 + 1) = cs1.drop 1 from rfl, ← e7, e10, glue cs1 1 1, show cs1.drop (1 + 1) = cs1.drop 2 from rfl, ← e12, e15, List.drop_eq_nil_of_le (Nat.le_of_eq h3), List.append_nil]
  subst g16
  have k1 := h1
  have lt1 : ∀ x ∈ p1, x.block < W.heap.size := by obtain ⟨m, hm⟩ := k1; exact DataW.trod_lt m _ _ _ hm
  obtain ⟨cs17, rfl, t18⟩ := val_agg (by kernel_rfl) (hval 1 30 v1 rfl rfl) h1
  obtain ⟨h19, f20⟩ := (t18).struct Try.underlying30 (by kernel_rfl) (m := 2)
  obtain ⟨cs22, e23⟩ : ∃ c, c = (cs17.drop 0).take 1 := ⟨_, rfl⟩
  have t24 : Trd enc Try.prog W 26 cs22 := e23 ▸ Trd.field f20 (i := 0) (off := 0) (n := 1) (by kernel_rfl) (by kernel_rfl)
  obtain ⟨x25, e26⟩ := (t24).u64 Try.underlying26
  obtain ⟨cs27, e28⟩ : ∃ c, c = (cs17.drop 1).take 1 := ⟨_, rfl⟩
  have t29 : Trd enc Try.prog W 26 cs27 := e28 ▸ Trd.field f20 (i := 1) (off := 1) (n := 1) (by kernel_rfl) (by kernel_rfl)
  obtain ⟨x30, e31⟩ := (t29).u64 Try.underlying26
  have g32 : cs17 = ([v64 x25]) ++ (([v64 x30])) := by
    conv => lhs; rw [← List.drop_zero (l := cs17)]
    rw [glue cs17 0 1, show cs17.drop (0 + 1) = cs17.drop 1 from rfl, ← e23, e26, glue cs17 1 1, show cs17.drop (1 + 1) = cs17.drop 2 from rfl, ← e28, e31, List.drop_eq_nil_of_le (Nat.le_of_eq h19), List.append_nil]
  subst g32
  have k2 := h2
  have lt2 : ∀ x ∈ p2, x.block < W.heap.size := by obtain ⟨m, hm⟩ := k2; exact DataW.trod_lt m _ _ _ hm
  obtain ⟨cs33, rfl, t34⟩ := val_agg (by kernel_rfl) (hval 2 30 v2 rfl rfl) h2
  obtain ⟨h35, f36⟩ := (t34).struct Try.underlying30 (by kernel_rfl) (m := 2)
  obtain ⟨cs38, e39⟩ : ∃ c, c = (cs33.drop 0).take 1 := ⟨_, rfl⟩
  have t40 : Trd enc Try.prog W 26 cs38 := e39 ▸ Trd.field f36 (i := 0) (off := 0) (n := 1) (by kernel_rfl) (by kernel_rfl)
  obtain ⟨x41, e42⟩ := (t40).u64 Try.underlying26
  obtain ⟨cs43, e44⟩ : ∃ c, c = (cs33.drop 1).take 1 := ⟨_, rfl⟩
  have t45 : Trd enc Try.prog W 26 cs43 := e44 ▸ Trd.field f36 (i := 1) (off := 1) (n := 1) (by kernel_rfl) (by kernel_rfl)
  obtain ⟨x46, e47⟩ := (t45).u64 Try.underlying26
  have g48 : cs33 = ([v64 x41]) ++ (([v64 x46])) := by
    conv => lhs; rw [← List.drop_zero (l := cs33)]
    rw [glue cs33 0 1, show cs33.drop (0 + 1) = cs33.drop 1 from rfl, ← e39, e42, glue cs33 1 1, show cs33.drop (1 + 1) = cs33.drop 2 from rfl, ← e44, e47, List.drop_eq_nil_of_le (Nat.le_of_eq h35), List.append_nil]
  subst g48
  clear hA0 hval0
  refine (group_walk x9 x14 x25 x30 x41 x46 W ).mono fun e W' ⟨he, bel⟩ => ?_
  subst he
  exact ⟨_, rfl, _, _, _, [], _, [], hW', trodAll_mk1 (shut_bool Try.underlying4 _), (trodAll_cons_mk (Below.trod laidOut (by kernel_rfl) (of_decide_eq_true (by kernel_rfl)) k0 bel lt0) (trodAll_cons_mk (Below.trod laidOut (by kernel_rfl) (of_decide_eq_true (by kernel_rfl)) k1 bel lt1) (trodAll_cons_mk (Below.trod laidOut (by kernel_rfl) (of_decide_eq_true (by kernel_rfl)) k2 bel lt2) trodAll_mk0))), rfl, bel.frame _, fun h => by cases h⟩

theorem over : Rows.octetGroupRow.holds Try.pinned (OpenSpec.ofChange Rows.octetGroupSpec) :=
  OpenClaim.holds_of_wide 10 Try.f10 rfl rfl rfl rfl rfl rfl rfl ⟨rfl, rfl, rfl, rfl, rfl⟩ rfl rfl rfl rfl rfl (by kernel_rfl) Try.func10 (by kernel_rfl)
    (of_decide_eq_true (by kernel_rfl)) (by unfold Func.isWrapper; first | (rw [if_pos (by decide +kernel)]; kernel_rfl) | (rw [if_neg (by decide +kernel)]; exact ⟨rfl, rfl⟩))
    (fun os started H enc _ => lifted os started H enc)

/-- ████ THE STATEMENT ████ -/
theorem proved : Rows.OctetGroupSaid := over
end Go.Proofs.Ytmapcfhhklapbaa.octetGroup
