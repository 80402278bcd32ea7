/-
  Layer 19: a short message, flipped. Conditions: those written in each theorem.
-/
import Derived.Test.YtmgopjeaehmbfaaDoorTiny3
namespace Go.Proofs.YtmgopjeaehmbfaaDoor
open Go Go.RowKit
set_option maxRecDepth 100000
set_option linter.unusedVariables false
set_option linter.unusedSimpArgs false

section
variable {P : Program} {ops : Array Oper} {Q : Exit → Act → World → Prop} {rest : List Oper} {dst : Option Tmp} {ty : TypeId} {pos : String} {aft : Array Edge} {gd : Option (Nat × Bool)} {a : Act} {w0 w : World} {L L' : List Blk} {T t : TypeId} {x y : Operand} {g k : Nat} {cs cs' : List Value} {v : Value}
theorem wq_stfT (hm : Own w0 w L) (hgd : Region.wanted (Oper.mk dst (.store T x y) ty pos aft gd) (yielded ops a.tmps) = true) (hT : One1 P T) (hx : a.eval x = .pointer (some ⟨g, k, none⟩)) (hy : a.eval y = v) (hval : v.cells = #[v]) (h1 : v.oneCell' = true) (hs : Swap L ⟨g, t, cs⟩ ⟨g, t, cs'⟩ L') (he : cs.set k v = cs') (hk : k < cs.length) (hr : ∀ w', Own w0 w' L' → wpList P ops Q rest (a.put dst undef) w') : wpList P ops Q ((Oper.mk dst (.store T x y) ty pos aft gd) :: rest) a w := wpl_st1 hm hgd rfl hx hy hval h1 hs hk he hr
end
/-- The first byte of an own slice: read, and written. -/
theorem sl_first {M : List Blk} {e : TypeId} {p : Option Addr} {c : Nat} {l : List Byte} (h : SlO M e 1 (.slice p l.length c) l.length (l.map v8)) (h0 : 0 < l.length) : ∃ (g o : Nat) (cur : List Value), p = some ⟨g, o, none⟩ ∧ M = [⟨g, e, cur⟩] ∧ cur[o]? = some (v8 (nth l 0)) ∧ o < cur.length ∧ l.length ≤ c ∧ ∀ x : Byte, SlO [⟨g, e, cur.set o (v8 x)⟩] e 1 (.slice p l.length c) l.length ((setN l 0 x).map v8) := by
  obtain ⟨hl, h⟩ := h
  rcases h with ⟨_, h1, _⟩ | ⟨g, o, cap, cur, he, rfl, h1, h2, h3, h4⟩
  · omega
  · cases he
    have ho : o < cur.length := by omega
    rw [Nat.mul_one] at h4
    refine ⟨g, o, cur, rfl, rfl, ?_, ho, h1, fun x => ⟨by simp [setN_length], .inr ⟨g, o, c, _, rfl, rfl, h1, h2, by rw [List.length_set]; exact h3, ?_⟩⟩⟩
    · have h5 : ((cur.drop o).take l.length)[0]? = (l.map v8)[0]? := by rw [h4]
      rw [List.getElem?_take, if_pos h0, List.getElem?_drop, Nat.add_zero] at h5
      rw [h5]; exact map8_at l h0
    · rw [Nat.mul_one, List.drop_set, if_neg (by omega), Nat.sub_self, List.take_set, h4]
      exact map8_set l x
theorem flip_nil (h : List Byte) (s : Value) (w0 : World) : Calls Tryd.prog 43 #[.pointer none, A8 h, s] w0 fun e w' => e = .returned (.slice none 0 0) ∧ Ext w0 w' := by
  have hm := Own.start w0
  go_enter Tryd.func43, Tryd.ntmps43
  go_wp2_with (first | ((first | ((with_reducible show wpList _ _ _ (Oper.mk _ (Op.box _ _) _ _ _ _ :: _) _ _); first | ((with_reducible apply wq_boxN hm); (exact rfl); (exact rfl)) | fail)); clear hm; (first | (have hx_ := g1; clear hx_; (first | (have hx_ := g2; clear hx_; (first | (have hx_ := g3; clear hx_; (first | (have hx_ := g4; clear hx_; (first | (have hx_ := g5; clear hx_; (first | (have hx_ := g6; clear hx_; (first | (have hx_ := g7; clear hx_; (first | (have hx_ := g8; clear hx_; (first | (have hx_ := g9; clear hx_; intro g10) | intro g9)) | intro g8)) | intro g7)) | intro g6)) | intro g5)) | intro g4)) | intro g3)) | intro g2)) | intro g1); intro w hm) | fail)
  go_ret
  exact ⟨rfl, hm.x⟩
set_option maxHeartbeats 8000000 in
theorem flip_sl (g : Nat) (F : Int → Int → List Byte → List Byte) (hF : ∀ j m x, (F j m x).length = 16) (h : List Byte) (hh : h.length = 16) (l : List Byte) (p : Option Addr) (c : Nat) (hl : l.length ≤ 1000) (w0 : World) (hr : RdB w0 p l)
    (CE : ∀ wx, Ext w0 wx → ∀ (j m : Int) (x : List Byte), x.length = 16 → j ≤ 9223372036854775807 → m ≤ 9223372036854775807 → Gives Tryd.prog 29 #[.pointer (some ⟨g, 0, none⟩), .int .i64 j, .int .i64 m, A8 x] wx (A8 (F j m x))) :
    Calls Tryd.prog 43 #[.pointer (some ⟨g, 0, none⟩), A8 h, .slice p l.length c] w0 fun e w' => ∃ v M, e = .returned v ∧ SlO M 5 1 v l.length ((flipL F h l).map v8) ∧ Own w0 w' M := by
  have hm := Own.start w0
  have CL := Lib.hid fun w (hx : Ext w0 w) => clone_sl l p c w (hr.ext hx) (by omega)
  by_cases hs : l.length = 0 ∨ 16 ≤ l.length
  · have eF : flipL F h l = l := if_pos hs
    rw [eF]
    clear eF hr CE hF
    by_cases h0 : l.length = 0
    · have a1 : ((l.length : Int) == 0) = true := by rw [h0]; rfl
      have a2 : (l.length : Int) = 0 := by omega
      have H0 := Lib.hid h0
      clear h0 hs
      go_enter Tryd.func43, Tryd.ntmps43
      go_wp2_with (first | ((first | ((with_reducible show wpList _ _ _ (Oper.mk _ (Op.box _ _) _ _ _ _ :: _) _ _); first | ((with_reducible apply wq_boxN hm); (exact rfl); (exact rfl)) | fail)); clear hm; (first | (have hx_ := g1; clear hx_; (first | (have hx_ := g2; clear hx_; (first | (have hx_ := g3; clear hx_; (first | (have hx_ := g4; clear hx_; (first | (have hx_ := g5; clear hx_; (first | (have hx_ := g6; clear hx_; (first | (have hx_ := g7; clear hx_; (first | (have hx_ := g8; clear hx_; (first | (have hx_ := g9; clear hx_; intro g10) | intro g9)) | intro g8)) | intro g7)) | intro g6)) | intro g5)) | intro g4)) | intro g3)) | intro g2)) | intro g1); intro w hm) | fail)
      refine (CL.out _ hm.x).mono ?_
      rintro e w ⟨v1, M1, rfl, hs1, hmM⟩
      obtain ⟨p1, c1, rfl⟩ := hs1.form
      have HS1 := Lib.hid hs1
      have hm2 := Own.join hm hmM
      clear hm hmM hs1
      have hm := hm2
      clear hm2
      go_wp2_with fail
      go_ret
      exact ⟨_, M1, rfl, HS1.out, (hm.perm List.perm_append_comm).dropN⟩
    · have a1 : ((l.length : Int) == 0) = false := by rw [beq_eq_false_iff_ne]; omega
      have a2 : ¬ (l.length : Int) = 0 := by omega
      have a3 : decide ((16 : Int) ≤ (l.length : Int)) = true := decide_eq_true (by omega)
      have a4 : (16 : Int) ≤ (l.length : Int) := by omega
      have a5 : decide ((l.length : Int) ≥ 16) = true := decide_eq_true (by omega)
      clear hs
      go_enter Tryd.func43, Tryd.ntmps43
      go_wp2_with (first | ((first | ((with_reducible show wpList _ _ _ (Oper.mk _ (Op.box _ _) _ _ _ _ :: _) _ _); first | ((with_reducible apply wq_boxN hm); (exact rfl); (exact rfl)) | fail)); clear hm; (first | (have hx_ := g1; clear hx_; (first | (have hx_ := g2; clear hx_; (first | (have hx_ := g3; clear hx_; (first | (have hx_ := g4; clear hx_; (first | (have hx_ := g5; clear hx_; (first | (have hx_ := g6; clear hx_; (first | (have hx_ := g7; clear hx_; (first | (have hx_ := g8; clear hx_; (first | (have hx_ := g9; clear hx_; intro g10) | intro g9)) | intro g8)) | intro g7)) | intro g6)) | intro g5)) | intro g4)) | intro g3)) | intro g2)) | intro g1); intro w hm) | fail)
      refine (CL.out _ hm.x).mono ?_
      rintro e w ⟨v1, M1, rfl, hs1, hmM⟩
      obtain ⟨p1, c1, rfl⟩ := hs1.form
      have HS1 := Lib.hid hs1
      have hm2 := Own.join hm hmM
      clear hm hmM hs1
      have hm := hm2
      clear hm2
      go_wp2_with fail
      go_ret
      exact ⟨_, M1, rfl, HS1.out, (hm.perm List.perm_append_comm).dropN⟩
  · have eF : flipL F h l = setN l 0 (nth l 0 ^^^ (nth (F 0 3 (topB h l)) 0 &&& 128#8)) := if_neg hs
    have a1 : ((l.length : Int) == 0) = false := by rw [beq_eq_false_iff_ne]; omega
    have a2 : ¬ (l.length : Int) = 0 := by omega
    have a3 : decide ((16 : Int) ≤ (l.length : Int)) = false := decide_eq_false (by omega)
    have a4 : ¬ (16 : Int) ≤ (l.length : Int) := by omega
    have a5 : decide ((l.length : Int) ≥ 16) = false := decide_eq_false (by omega)
    have B1 := Lib.hid fun w (hx : Ext w0 w) => oblock_any l p c w (hr.ext hx)
    obtain ⟨B, hB⟩ : ∃ B, B = blk l := ⟨_, rfl⟩
    obtain ⟨S, hS⟩ : ∃ S, S = bothL (setN B 0 (nth B 0 ||| 128#8)) h := ⟨_, rfl⟩
    obtain ⟨X, hX⟩ : ∃ X, X = F 0 3 S := ⟨_, rfl⟩
    rw [← hB] at B1
    have lB : B.length = 16 := by rw [hB]; exact blk_length _
    have lB2 : (setN B 0 (nth B 0 ||| 128#8)).length = 16 := by rw [setN_length]; exact lB
    have lS : S.length = 16 := by rw [hS]; exact bothL_length _ _
    have lX : X.length = 16 := by rw [hX]; exact hF _ _ _
    have eF2 : flipL F h l = setN l 0 (nth l 0 ^^^ (nth X 0 &&& 128#8)) := by rw [eF, hX, hS, hB]; rfl
    rw [eF2]
    have E1 := Lib.hid fun w (hx : Ext w0 w) => hX ▸ CE w hx 0 3 S lS (by omega) (by omega)
    have P1 := Lib.hid fun (w : World) (p : Option Addr) (c : Nat) (hc : 2 ≤ c) (hk : RdK w p 16 [setN B 0 (nth B 0 ||| 128#8), h]) => show Gives Tryd.prog 75 #[.slice p 2 c] w (A8 S) from hS ▸ tplus_two _ _ lB2 p c w hk hc
    have k1 := Lib.hid (show ∀ q ∈ [setN B 0 (nth B 0 ||| 128#8), h], q.length = 16 from by simp [lB2, hh])
    have h0 : 0 < l.length := by omega
    clear hB hS hX eF eF2 hr CE hF hs
    go_enter Tryd.func43, Tryd.ntmps43
    go_wp2_with (first | ((first | ((with_reducible show wpList _ _ _ (Oper.mk _ (Op.box _ _) _ _ _ _ :: _) _ _); first | ((with_reducible apply wq_boxN hm); (exact rfl); (exact rfl)) | fail)); clear hm; (first | (have hx_ := g1; clear hx_; (first | (have hx_ := g2; clear hx_; (first | (have hx_ := g3; clear hx_; (first | (have hx_ := g4; clear hx_; (first | (have hx_ := g5; clear hx_; (first | (have hx_ := g6; clear hx_; (first | (have hx_ := g7; clear hx_; (first | (have hx_ := g8; clear hx_; (first | (have hx_ := g9; clear hx_; intro g10) | intro g9)) | intro g8)) | intro g7)) | intro g6)) | intro g5)) | intro g4)) | intro g3)) | intro g2)) | intro g1); intro w hm) | fail)
    refine (CL.out _ hm.x).mono ?_
    rintro e w ⟨v1, M1, rfl, hs1, hmM⟩
    obtain ⟨p1, c1, rfl⟩ := hs1.form
    obtain ⟨go, o, cur, rfl, rfl, hc1, ho, hlc, hset⟩ := sl_first hs1 h0
    have HSET := Lib.hid hset
    have HC1 := Lib.hid hc1
    have hm2 := Own.join hm hmM
    clear hm hmM hs1 hset hc1
    simp only [List.cons_append, List.nil_append] at hm2
    have hm := hm2
    clear hm2
    have b1 : (0 : Int) < (l.length : Int) := by omega
    go_wp2_with (first | (go_at_call 53; (with_reducible refine (B1.out _ hm.x).mono ?_); rintro e_ w ⟨rfl, hx_⟩; replace hm := hm.ext hx_; clear hx_) | ((with_reducible apply wq_bs2 hm (bs_run2 (setN B 0 (nth B 0 ||| 128#8)) h lB2 hh _)); exact rfl; exact rfl; exact rfl; clear hm; intro gq w hm) | (go_at_call 75; (with_reducible refine (P1.out _ _ _ (Nat.le_refl 2) (hm.rdK (by repeat (first | exact Has.hd | assumption | apply Has.tl | apply Has.app)) k1.out)).mono ?_); rintro e_ w ⟨rfl, hx_⟩; replace hm := hm.ext hx_; clear hx_) | (go_at_call 29; (with_reducible refine (E1.out _ hm.x).mono ?_); rintro e_ w ⟨rfl, hx_⟩; replace hm := hm.ext hx_; clear hx_) | ((with_reducible show wpList _ _ _ (Oper.mk _ (Op.load _ _) _ _ _ _ :: _) _ _); first | ((with_reducible apply wq_ldv hm); (exact rfl); infer_instance; (exact rfl); (focus ((repeat (first | exact .hd | assumption | apply Has.tl | apply Has.app)); done)); (focus (first | omega | (simp; omega) | (refine Nat.lt_of_lt_of_le (BitVec.isLt _) ?_; first | omega | (simp; done) | (simp; omega) | fail) | fail))) | ((with_reducible apply wq_ldW hm); (exact rfl); infer_instance; (exact rfl); (focus ((repeat (first | exact .hd | assumption | apply Has.tl | apply Has.app)); done)); (focus (first | rfl | omega | (simp; done) | (simp; omega) | fail))) | fail) | ((((with_reducible show wpList _ _ _ (Oper.mk _ (Op.store _ _ _) _ _ _ _ :: _) _ _); first | ((with_reducible apply wq_stv hm); (exact rfl); infer_instance; (exact rfl); (focus ((repeat (first | exact .hd | assumption | apply Swap.tl | apply Swap.app)); done)); infer_instance; (exact rfl); (focus (first | omega | (simp; omega) | (refine Nat.lt_of_lt_of_le (BitVec.isLt _) ?_; first | omega | (simp; done) | (simp; omega) | fail) | fail))) | ((with_reducible apply wq_stW hm); (exact rfl); infer_instance; (exact rfl); (exact rfl); (focus ((repeat (first | exact .hd | assumption | apply Swap.tl | apply Swap.app)); done)); (focus (first | rfl | omega | (simp; done) | (simp; omega) | fail)); (focus (first | rfl | omega | (simp; done) | (simp; omega) | fail)); (focus (first | exact one_map _ | (simp [one8, one32, one64]; done) | fail))) | fail)); clear hm; intro w hm) | ((first | ((with_reducible show wpList _ _ _ (Oper.mk _ (Op.alloc _) _ _ _ _ :: _) _ _); first | ((with_reducible apply wq_new hm); (exact rfl); infer_instance) | fail)); clear hm; (first | (have hx_ := g1; clear hx_; (first | (have hx_ := g2; clear hx_; (first | (have hx_ := g3; clear hx_; (first | (have hx_ := g4; clear hx_; (first | (have hx_ := g5; clear hx_; (first | (have hx_ := g6; clear hx_; (first | (have hx_ := g7; clear hx_; (first | (have hx_ := g8; clear hx_; (first | (have hx_ := g9; clear hx_; intro g10) | intro g9)) | intro g8)) | intro g7)) | intro g6)) | intro g5)) | intro g4)) | intro g3)) | intro g2)) | intro g1); intro w hm) | fail)
    refine region_at 8 (fun w' => Ext _ w') 44 (by kernel_rfl) (by kernel_rfl) rfl (fun _ _ h k => h.trans k) (drew_ext _) ?_
    simp only [List.take_succ_cons, List.take_zero, List.drop_succ_cons, List.drop_zero, List.map_cons, List.map_nil]
    repeat (first
        | (apply walk_is rfl rfl rfl; (intro wx hwx; (with_reducible apply gq_ld1 (hm.ext hwx)); infer_instance; (exact rfl); (focus ((repeat (first | exact .hd | assumption | apply Has.tl | apply Has.app)); done)); (exact HC1.out)); (simp only [Act.put, List.setIfInBounds_toArray, List.set_cons_succ, List.set_cons_zero]; rfl))
        | (apply walk_is rfl rfl rfl
           · (intro wx hwx; first | ((with_reducible show gives _ _ _ (Sem.run _ (execOp _ (Oper.mk _ (Op.load _ _) _ _ _ _)) _)); first | ((with_reducible apply gq_ldv (hm.ext hwx)); infer_instance; (exact rfl); (focus ((repeat (first | exact .hd | assumption | apply Has.tl | apply Has.app)); done)); (focus (first | omega | (simp; omega) | (refine Nat.lt_of_lt_of_le (BitVec.isLt _) ?_; first | omega | (simp; done) | (simp; omega) | fail) | fail))) | ((with_reducible apply gq_ldW (hm.ext hwx)); infer_instance; (exact rfl); (focus ((repeat (first | exact .hd | assumption | apply Has.tl | apply Has.app)); done)); (focus (first | rfl | omega | (simp; done) | (simp; omega) | fail))) | ((with_reducible apply gq_ld1 (hm.ext hwx)); infer_instance; (exact rfl); (focus ((repeat (first | exact .hd | assumption | apply Has.tl | apply Has.app)); done)); (exact rfl)) | fail) | (go_simp; (try go_bits); first | exact gives_same | exact gives_skip))
           · (simp only [Act.put, List.setIfInBounds_toArray, List.set_cons_succ, List.set_cons_zero]; rfl))
        | (apply walk_not rfl rfl rfl
           · (simp only [Act.put, List.setIfInBounds_toArray, List.set_cons_succ, List.set_cons_zero]; rfl)))
    intro wz hwz
    simp only [List.zip_cons_cons, List.zip_nil_right]
    repeat (first | rw [fin_is] | (rw [fin_cons]; intro _ _))
    rw [fin_nil]
    try (replace hm := hm.ext hwz)
    simp only [Act.put, List.setIfInBounds_toArray, List.set_cons_succ, List.set_cons_zero]
    go_wp2_with (first | ((with_reducible show wpList _ _ _ (Oper.mk _ (Op.store _ _ _) _ _ _ _ :: _) _ _); (with_reducible apply wq_stfT (v := v8 (nth l 0 ^^^ (nth X 0 &&& 128#8))) hm); (exact rfl); infer_instance; (exact rfl); (exact rfl); (exact rfl); (exact rfl); (focus ((repeat (first | exact .hd | apply Swap.tl | apply Swap.app)); done)); (exact rfl); (first | exact ho | omega); clear hm; intro w hm) | fail)
    go_ret
    exact ⟨_, _, rfl, HSET.out _, own_subT hm (by repeat (first | exact List.Sublist.refl _ | exact List.nil_sublist _ | apply List.Sublist.cons_cons | apply List.Sublist.cons))⟩

end Go.Proofs.YtmgopjeaehmbfaaDoor
