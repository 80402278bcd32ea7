/-
  Layer 2: products, powers, inverses. No conditions.
  Layer 2: the boxes, made and read. No conditions.
-/
import Derived.Test.YtmgopjeaehmbfaaDoorBit1
import Derived.Test.YtmgopjeaehmbfaaDoorGfp
import Derived.Test.YtmgopjeaehmbfaaDoorOpen
import Derived.RegionTactic
import Derived.ChangeAlike
namespace Go.Proofs.YtmgopjeaehmbfaaDoor
open Go Go.RowKit
set_option maxRecDepth 100000
set_option linter.unusedVariables false
set_option linter.unusedSimpArgs false

theorem double_any (a : Byte) (w : World) : Calls Tryd.prog 81 #[v8 a] w fun e w' => e = .returned (v8 (dbl a)) ∧ w = w' := by
  go_enter Tryd.func81, Tryd.ntmps81
  go_wp2
  go_ret
  exact ⟨rfl, rfl⟩

theorem shr_lt (b : Byte) (h : b ≠ 0#8) : (b >>> 1).toNat < b.toNat := by
  have : b.toNat ≠ 0 := fun e => h (BitVec.eq_of_toNat_eq e)
  simp only [BitVec.toNat_ushiftRight, Nat.shiftRight_eq_div_pow]; omega
theorem shr_fit (b : Byte) (n : Nat) (h : b.toNat < 2 ^ (n + 1)) : (b >>> 1).toNat < 2 ^ n := by
  simp only [BitVec.toNat_ushiftRight, Nat.shiftRight_eq_div_pow]; rw [Nat.pow_succ] at h; omega

set_option maxHeartbeats 1000000 in
theorem times_any (a0 b0 : Byte) (w : World) : Calls Tryd.prog 106 #[v8 a0, v8 b0] w fun e w' => e = .returned (v8 (tms a0 b0)) ∧ w = w' := by
  have h0 := tmsF_tms a0 b0
  have hb0 : b0.toNat < 2 ^ 8 := b0.isLt
  generalize tms a0 b0 = R at *
  have H0 := Lib.hid h0
  have Hb0 := Lib.hid hb0
  clear h0 hb0
  go_enter Tryd.func106, Tryd.ntmps106
  go_wp2
  refine wp_scope_goto 0 (fun a_ w_ => ∃ (a b s : Byte) (n : Nat) (u2 u3 u6 u7 u8 u9 u10 u11 u12 u13 u14 u15 u16 u17 u18 : Value), a_ = { tmps := #[v8 a, v8 b, u2, u3, (.int .u8 0), v8 s, u6, u7, u8, u9, u10, u11, u12, u13, u14, u15, u16, u17, u18], defers := [] } ∧ b.toNat < 2 ^ n ∧ tmsF n a b s = R ∧ w = w_) (fun a_ _ => (intOf (a_.tmps.getD 1 undef)).toNat) rfl ?_ ?_
  · rintro a' w' ⟨a, b, s, n, u2, u3, u6, u7, u8, u9, u10, u11, u12, u13, u14, u15, u16, u17, u18, rfl, ⟨hn, hR, rfl⟩⟩
    have Hn := Lib.hid hn
    have HR := Lib.hid hR
    clear hn hR
    by_cases hb : b = 0#8
    · subst hb
      have hr := HR.out
      rw [tmsF_end] at hr
      have Hr := Lib.hid hr
      clear hr
      go_wp2
      simp only [Exit.jump]
      go_ret
      exact ⟨by rw [Hr.out]; rfl, rfl⟩
    · have hb2 : (b == 0#8) = false := by simpa using hb
      have hlt := shr_lt b hb
      have Hlt := Lib.hid hlt
      have Hb := Lib.hid hb
      clear hb hlt
      go_wp2_with (go_at_call 81; (with_reducible refine (double_any _ _).mono ?_); rintro e w' ⟨rfl, rfl⟩)
      go_step3
      cases n with
      | zero => exact absurd Hn.out (by have := Hb.out; intro h; exact this (BitVec.eq_of_toNat_eq (by simp at h ⊢; omega)))
      | succ n => exact ⟨rfl, ⟨_, _, _, _, _, _, _, _, _, _, _, _, _, _, _, _, _, _, _, rfl, ⟨shr_fit b n Hn.out, HR.out, rfl⟩⟩, Hlt.out⟩
  · intro hp
    go_wp2
    go_step3
    rename_i hK
    exact hK _ _ (hp _ _ ⟨_, _, _, _, _, _, _, _, _, _, _, _, _, _, _, _, _, _, _, rfl, ⟨Hb0.out, H0.out, rfl⟩⟩)

theorem rotl_any (x : Byte) (k : Nat) (w : World) (hk : k < 8) : Calls Tryd.prog 107 #[v8 x, .int .i64 k] w fun e w' => e = .returned (v8 (rotl8 x k)) ∧ w = w' := by
  have hb : bits .and .u64 (k : Int) 7 = k := by
    have : ∀ k : Nat, k < 8 → bits .and .u64 (k : Int) 7 = k := by decide
    exact this k hk
  have h8 : ((8 : Int) - (k : Int)).toNat = 8 - k := by omega
  go_enter Tryd.func107, Tryd.ntmps107
  go_wp2
  go_ret
  exact ⟨rfl, rfl⟩

set_option maxHeartbeats 1000000 in
theorem box_any (i : Byte) (w : World) : Calls Tryd.prog 83 #[v8 i] w fun e w' => e = .returned (v8 (boxF i 5)) ∧ w = w' := by
  go_enter Tryd.func83, Tryd.ntmps83
  go_wp2
  go_loop [3, 5] (fun o k => ∃ n : Nat, n ≤ 5 ∧ k = .int .i64 n ∧ o = v8 (boxF i n)) (fun _ k => 5 - (intOf k).toNat)
  case atStart => exact ⟨0, by omega, rfl, rfl⟩
  case round =>
    obtain ⟨n, hn, rfl, rfl⟩ := hrel
    by_cases hlt : n < 5
    · go_wp2_with (go_at_call 107; (with_reducible refine (rotl_any _ n _ (by omega)).mono ?_); rintro e w' ⟨rfl, rfl⟩)
      go_round
      case rel => exact ⟨n + 1, by omega, by go_num, rfl⟩
      case measure => simp [intOf] <;> omega
    · obtain rfl : n = 5 := by omega
      go_wp2
      go_ret
      exact ⟨rfl, rfl⟩

end Go.Proofs.YtmgopjeaehmbfaaDoor
namespace Go.Proofs.YtmgopjeaehmbfaaDoor
open Go Go.RowKit
set_option maxRecDepth 100000
set_option linter.unusedVariables false
set_option linter.unusedSimpArgs false

set_option maxHeartbeats 1000000 in
theorem bput_any (g : Nat) (t : TypeId) (l : List Byte) (hl : l.length = 512) (a b : Byte) (w0 w : World) (L L' : List Blk) (hm : Own w0 w L) (hs : Swap L ⟨g, t, l.map v8⟩ ⟨g, t, (putT l a b).map v8⟩ L') :
    Calls Tryd.prog 82 #[.pointer (some ⟨g, 0, none⟩), v8 a, v8 b] w fun e w' => e = .returned (.tuple #[]) ∧ Own w0 w' L' := by
  obtain ⟨M, h1, h2⟩ := hs.split ⟨g, t, (setN l a.toNat b).map v8⟩
  have o1 := hm.turn8 h1
  have o2 := o1.turn8 h2
  have ha : a.toNat < 256 := a.isLt
  have hb : b.toNat < 256 := b.isLt
  have ha2 : (a.toNat : Int) < 256 := by omega
  have hb2 : (b.toNat : Int) < 256 := by omega
  have r0 := hm.row h1.has
  have hc1 := row_v8 r0 a.toNat (by omega)
  have hc2 := row_v8 r0 (256 + b.toNat) (by omega)
  have hf1 := row_free r0 a.toNat
  have hf2 := row_free r0 (256 + b.toNat)
  have hne : ¬ a.toNat = 256 + b.toNat := by omega
  have O2 := Lib.hid o2
  clear o1 o2 h1 h2 hs hm r0 hl
  go_enter Tryd.func82, Tryd.ntmps82
  go_wp2
  go_region
  all_goals
    go_wp2
    go_end0
    exact ⟨rfl, O2.out.drew⟩

/-- A pointer to the boxes. -/
def BoxesS : Slot := fun v w => ∃ g, v = .pointer (some ⟨g, 0, none⟩) ∧ Row w g 128 (tabs.map v8)
theorem BoxesS.stable : Stable BoxesS := fun _ _ _ ⟨g, h1, h2⟩ hx => ⟨g, h1, row_ext h2 hx⟩
theorem build_boxes (w : World) : (Instr.build 128 #[]).run Tryd.prog w = .ok (.agg ((zer (n := 8) 512).map v8).toArray) w := by kernel_rfl
theorem box_anyG (i : Byte) (w : World) : Gives Tryd.prog 83 #[v8 i] w (v8 (boxF i 5)) := .of_same (box_any i w)
theorem box0_any (w : World) : Calls Tryd.prog 83 #[.int .u8 0] w fun e w' => e = .returned (v8 (boxF 0#8 5)) ∧ w = w' := box_any 0#8 w
theorem pow_mod (k : Nat) (h : k < 255) : ((255 : Int) - (k : Int)).tmod 255 = (((255 - k) % 255 : Nat) : Int) := by
  rw [Int.tmod_eq_emod_of_nonneg (by omega)]; omega

set_option maxHeartbeats 2000000 in
theorem make_new (w0 : World) : Calls Tryd.prog 51 #[] w0 fun e w' => ∃ g, e = .returned (.pointer (some ⟨g, 0, none⟩)) ∧ w0.heap.size ≤ g ∧ Row w' g 128 (tabs.map v8) ∧ Ext w0 w' := by
  have hm := Own.start w0
  go_enter Tryd.func51, Tryd.ntmps51
  go_wp2_with (first | ((first | ((with_reducible show wpList _ _ _ (Oper.mk _ (Op.alloc _) _ _ _ _ :: _) _ _); first | ((with_reducible apply wq_new hm); (exact rfl); infer_instance) | fail)); clear hm; (first | (have hx_ := g1; clear hx_; (first | (have hx_ := g2; clear hx_; (first | (have hx_ := g3; clear hx_; (first | (have hx_ := g4; clear hx_; (first | (have hx_ := g5; clear hx_; (first | (have hx_ := g6; clear hx_; (first | (have hx_ := g7; clear hx_; (first | (have hx_ := g8; clear hx_; (first | (have hx_ := g9; clear hx_; intro g10) | intro g9)) | intro g8)) | intro g7)) | intro g6)) | intro g5)) | intro g4)) | intro g3)) | intro g2)) | intro g1); intro w hm) | fail)
  go_loopw [2, 6] (fun e i wr => ∃ k : Nat, k ≤ 255 ∧ i = .int .i64 k ∧ e = v8 (pws k) ∧ Own w0 wr [⟨g1, 126, (part 255 k pws fun _ => 0).map v8⟩]) (fun _ i _ => 255 - (intOf i).toNat)
  case atStart => exact ⟨0, by omega, rfl, rfl, by rw [← zer_start]; exact hm⟩
  case round =>
    obtain ⟨k, hk, rfl, rfl, hm⟩ := hrel
    by_cases hlt : k < 255
    · go_wp2_with (first | (go_at_call 81; (with_reducible refine (double_any _ _).mono ?_); rintro e w' ⟨rfl, rfl⟩) | ((((with_reducible show wpList _ _ _ (Oper.mk _ (Op.store _ _ _) _ _ _ _ :: _) _ _); first | ((with_reducible apply wq_stv hm); (exact rfl); infer_instance; (exact rfl); (focus ((repeat (first | exact .hd | assumption | apply Swap.tl)); done)); infer_instance; (exact rfl); (focus (first | omega | (simp; omega) | (refine Nat.lt_of_lt_of_le (BitVec.isLt _) ?_; first | omega | (simp; done) | (simp; omega) | fail) | fail))) | fail)); clear hm; intro w hm) | fail)
      go_roundw
      case rel =>
        rw [part_set' hlt rfl] at hm
        exact ⟨k + 1, by omega, by go_num, rfl, hm⟩
      case measure => simp [intOf] <;> omega
    · obtain rfl : k = 255 := by omega
      rw [part_all] at hm
      go_wp2_with (first | (go_at_call 83; (with_reducible refine (box0_any _).mono ?_); rintro e w' ⟨rfl, rfl⟩) | ((with_reducible apply wq_build0 build_boxes); exact rfl) | ((first | ((with_reducible show wpList _ _ _ (Oper.mk _ (Op.box _ _) _ _ _ _ :: _) _ _); first | ((with_reducible apply wq_boxN hm); (exact rfl); (exact rfl)) | fail)); clear hm; (first | (have hx_ := g1; clear hx_; (first | (have hx_ := g2; clear hx_; (first | (have hx_ := g3; clear hx_; (first | (have hx_ := g4; clear hx_; (first | (have hx_ := g5; clear hx_; (first | (have hx_ := g6; clear hx_; (first | (have hx_ := g7; clear hx_; (first | (have hx_ := g8; clear hx_; (first | (have hx_ := g9; clear hx_; intro g10) | intro g9)) | intro g8)) | intro g7)) | intro g6)) | intro g5)) | intro g4)) | intro g3)) | intro g2)) | intro g1); intro w hm) | fail)
      refine (bput_any _ _ (zer 512) zer_length 0#8 (boxF 0#8 5) w0 _ _ _ hm (by repeat (first | exact Swap.hd | assumption | apply Swap.tl))).mono ?_
      rintro e w ⟨rfl, hm⟩
      go_wp2_with fail
      go_loopw [22] (fun i wr => ∃ k : Nat, k ≤ 255 ∧ i = .int .i64 k ∧ Own w0 wr [⟨g2, 128, (tabT k).map v8⟩, ⟨g1, 126, (tab 255 pws).map v8⟩]) (fun i _ => 255 - (intOf i).toNat)
      case atStart => exact ⟨0, by omega, rfl, hm⟩
      case round =>
        obtain ⟨k, hk, rfl, hm⟩ := hrel
        by_cases hlt : k < 255
        · have hmod := pow_mod k hlt
          have hq : (255 - k) % 255 < 255 := Nat.mod_lt _ (by omega)
          have e1 : nth (tab 255 pws) k = pws k := nth_tab hlt
          have e2 : nth (tab 255 pws) ((255 - k) % 255) = pws ((255 - k) % 255) := nth_tab hq
          generalize hqq : (255 - k) % 255 = q at *
          have hq2 : (q : Int) < 255 := by omega
          have hwr : IntKind.i64.wrap (255 - (k : Int)) = 255 - (k : Int) := IntWalk.i64_in _ (by omega)
          have Hqq := Lib.hid hqq
          clear hqq
          go_wp2_with fail
          refine region_at 10 (fun w' => Ext _ w') 38 (by kernel_rfl) (by kernel_rfl) rfl (fun _ _ h k => h.trans k) (drew_ext _) ?_
          simp only [List.take_succ_cons, List.take_zero, List.drop_succ_cons, List.drop_zero, List.map_cons, List.map_nil]
          repeat (first
              | (apply walk_is rfl rfl rfl
                 · (intro wx hwx; first | ((with_reducible show gives _ _ _ (Sem.run _ (execOp _ (Oper.mk _ (Op.load _ _) _ _ _ _)) _)); first | ((with_reducible apply gq_ldv (hm.ext hwx)); infer_instance; (exact rfl); (focus ((repeat (first | exact .hd | assumption | apply Has.tl)); done)); (focus (first | omega | (simp; omega) | (refine Nat.lt_of_lt_of_le (BitVec.isLt _) ?_; first | omega | (simp; done) | (simp; omega) | fail) | fail))) | ((with_reducible apply gq_ldW (hm.ext hwx)); infer_instance; (exact rfl); (focus ((repeat (first | exact .hd | assumption | apply Has.tl)); done)); (focus (first | rfl | omega | (simp; done) | (simp; omega) | fail))) | ((with_reducible apply gq_ld1 (hm.ext hwx)); infer_instance; (exact rfl); (focus ((repeat (first | exact .hd | assumption | apply Has.tl)); done)); (exact rfl)) | fail) | (go_simp; (try go_bits); first | exact gives_same | exact gives_skip | with_reducible exact gives_call (box_anyG _ wx)))
                 · (simp only [Act.put, List.setIfInBounds_toArray, List.set_cons_succ, List.set_cons_zero]; rfl))
              | (apply walk_not rfl rfl rfl
                 · (simp only [Act.put, List.setIfInBounds_toArray, List.set_cons_succ, List.set_cons_zero]; rfl)))
          intro wz hwz
          simp only [List.zip_cons_cons, List.zip_nil_right]
          repeat (first | rw [fin_is] | (rw [fin_cons]; intro _ _))
          rw [fin_nil]
          try (replace hm := hm.ext hwz)
          simp only [Act.put, List.setIfInBounds_toArray, List.set_cons_succ, List.set_cons_zero]
          go_wp2_with fail
          refine (bput_any g2 _ (tabT k) (tabT_length k) _ _ w0 _ _ _ hm (by repeat (first | exact Swap.hd | assumption | apply Swap.tl))).mono ?_
          rintro e w ⟨rfl, hm⟩
          have hT : putT (tabT k) (pws k) (boxF (pws q) 5) = tabT (k + 1) := by rw [tabT, Hqq.out]
          first | rw [e1, e2, hT] at hm | rw [hT] at hm
          go_wp2
          go_roundw
          case rel => exact ⟨k + 1, by omega, by go_num, hm⟩
          case measure => simp [intOf] <;> omega
        · obtain rfl : k = 255 := by omega
          go_wp2_with fail
          go_ret
          exact ⟨g2, rfl, hm.base (by repeat (first | exact Has.hd | assumption | apply Has.tl)), hm.row (by repeat (first | exact Has.hd | assumption | apply Has.tl)), hm.x⟩
theorem make_any (w0 : World) : GivesR Tryd.prog 51 #[] w0 BoxesS := (make_new w0).mono fun _ _ ⟨g, h1, _, h3, h4⟩ => ⟨_, h1, ⟨g, rfl, h3⟩, h4⟩

theorem to_any (g : Nat) (a : Byte) (w : World) (h : Row w g 128 (tabs.map v8)) : Calls Tryd.prog 80 #[.pointer (some ⟨g, 0, none⟩), v8 a] w fun e w' => e = .returned (v8 (bxTo a)) ∧ w = w' := by
  have ha : a.toNat < 256 := a.isLt
  have ha2 : (a.toNat : Int) < 256 := by omega
  have hc : w.cell? ⟨g, a.toNat, none⟩ = some (v8 (bxTo a)) := by rw [row_v8 h a.toNat (by rw [tabs_length]; omega)]; rfl
  clear h
  go_enter Tryd.func80, Tryd.ntmps80
  go_wp2
  go_ret
  exact ⟨rfl, rfl⟩
theorem to_nil (a : Byte) (w : World) : Calls Tryd.prog 80 #[.pointer none, v8 a] w fun e w' => e = .returned (v8 0#8) ∧ w = w' := by
  go_enter Tryd.func80, Tryd.ntmps80
  go_wp2
  go_ret
  exact ⟨rfl, rfl⟩
end Go.Proofs.YtmgopjeaehmbfaaDoor
