/-
  Layer 19: a message's halves; the step. Conditions: those written in each theorem.
-/
import Derived.Test.YtmgopjeaehmbfaaDoorTiny2
import Derived.Test.YtmgopjeaehmbfaaDoorEzg
namespace Go.Proofs.YtmgopjeaehmbfaaDoor
open Go Go.RowKit
set_option maxRecDepth 100000
set_option linter.unusedVariables false
set_option linter.unusedSimpArgs false

theorem fl0 : flv 0 = 0 := by decide +kernel
theorem own_subT {w0 w : World} {L M : List Blk} (h : Own w0 w L) (hs : M.Sublist L) : Own w0 w M := ⟨h.1, h.2.1.sublist (hs.map _), fun b hb => h.2.2 b (hs.subset hb)⟩
theorem build_halves (a b : Option Addr) (n m c d : Nat) (w : World) : (Instr.build 113 #[(0, .slice a n c), (1, .slice b m d)]).run Tryd.prog w = .ok (.agg ([.slice a n c, .slice b m d] : List Value).toArray) w := by kernel_rfl
instance many_halves : Many Tryd.prog 113 2 := ⟨by kernel_rfl, by kernel_rfl⟩
theorem two_one {a b : Option Addr} {n m c d : Nat} : ∀ v ∈ ([.slice a n c, .slice b m d] : List Value), v.oneCell' = true := by
  intro v hv
  simp only [List.mem_cons, List.not_mem_nil, or_false] at hv
  rcases hv with rfl | rfl <;> rfl
set_option maxHeartbeats 4000000 in
theorem halves_pair (l : List Byte) (p : Option Addr) (c : Nat) (hl : l.length ≤ 31) (w0 : World) (hr : RdB w0 p l) :
    Calls Tryd.prog 73 #[.slice p l.length c] w0 fun e w' => ∃ g k, e = .returned (.agg ([.slice (some ⟨g, 0, none⟩) l.length l.length, .slice (some ⟨k, 0, none⟩) l.length l.length] : List Value).toArray) ∧ Own w0 w' [⟨k, 5, (halvesL l l.length l.length).map v8⟩, ⟨g, 5, (halvesL l 0 l.length).map v8⟩] := by
  have hm := Own.start w0
  obtain ⟨f1, f2, _, _⟩ := fl_tiny_at l.length hl
  have h1 := conv_if f2.of
  have C1 := Lib.hid fun w (hx : Ext w0 w) => show Calls Tryd.prog 44 #[.slice p l.length c, .complex .f64 0 (flv l.length)] w fun e w' => ∃ g, e = .returned (.tuple #[.slice (some ⟨g, 0, none⟩) l.length l.length, .bool true]) ∧ Own w w' [⟨g, 5, (halvesL l 0 l.length).map v8⟩] from by
    have := halves_new l p c _ 0 _ l.length _ f1 f2 (by omega) (by omega) w (hr.ext hx)
    rwa [fl0] at this
  have C2 := Lib.hid fun w (hx : Ext w0 w) => halves_new l p c _ l.length _ l.length _ f2 f2 (by omega) (by omega) w (hr.ext hx)
  generalize flv l.length = b at *
  clear f1 f2 hr
  go_enter Tryd.func73, Tryd.ntmps73
  go_wp2_with (first | ((first | ((with_reducible show wpList _ _ _ (Oper.mk _ (Op.alloc _) _ _ _ _ :: _) _ _); first | ((with_reducible apply wq_new hm); (exact rfl); infer_instance) | fail)); clear hm; (first | (have hx_ := g1; clear hx_; (first | (have hx_ := g2; clear hx_; (first | (have hx_ := g3; clear hx_; (first | (have hx_ := g4; clear hx_; (first | (have hx_ := g5; clear hx_; (first | (have hx_ := g6; clear hx_; (first | (have hx_ := g7; clear hx_; (first | (have hx_ := g8; clear hx_; (first | (have hx_ := g9; clear hx_; intro g10) | intro g9)) | intro g8)) | intro g7)) | intro g6)) | intro g5)) | intro g4)) | intro g3)) | intro g2)) | intro g1); intro w hm) | fail)
  refine (C1.out _ hm.x).mono ?_
  rintro e w ⟨g, rfl, hmM⟩
  have hm2 := Own.join hm hmM
  clear hm hmM
  try simp only [List.cons_append, List.nil_append] at hm2
  have hm := hm2
  clear hm2
  go_wp2_with fail
  refine (C2.out _ hm.x).mono ?_
  rintro e w ⟨k, rfl, hmM⟩
  have hm2 := Own.join hm hmM
  clear hm hmM
  try simp only [List.cons_append, List.nil_append] at hm2
  have hm := hm2
  clear hm2
  go_wp2_with (first | ((with_reducible apply wq_build2 (build_halves (some ⟨g, 0, none⟩) (some ⟨k, 0, none⟩) l.length l.length l.length l.length)); exact rfl; exact rfl; exact rfl) | ((with_reducible show wpList _ _ _ (Oper.mk _ (Op.store 113 _ _) _ _ _ _ :: _) _ _); (with_reducible apply wq_stW (cs' := [.slice (some ⟨g, 0, none⟩) l.length l.length, .slice (some ⟨k, 0, none⟩) l.length l.length]) hm); (exact rfl); infer_instance; (exact rfl); (exact rfl); (focus ((repeat (first | exact .hd | apply Swap.tl | apply Swap.app | apply Swap.app)); done)); (exact rfl); (exact rfl); (exact two_one); clear hm; intro w hm) | fail)
  refine ret_own hm rfl rfl many_halves (by repeat (first | exact Has.hd | assumption | apply Has.tl | apply Has.app)) rfl rfl ?_
  exact ⟨g, k, rfl, own_subT hm (by repeat (first | exact List.Sublist.refl _ | exact List.nil_sublist _ | apply List.Sublist.cons_cons | apply List.Sublist.cons))⟩

section
variable {P : Program} {ops : Array Oper} {Q : Exit → Act → World → Prop} {rest : List Oper} {dst : Option Tmp} {ty : TypeId} {pos : String} {aft : Array Edge} {gd : Option (Nat × Bool)} {a : Act} {w0 w : World} {L : List Blk} {T e : TypeId} {u0 u1 u2 : Value} {x0 x1 x2 : Operand} {ks : List (List Byte)}
theorem bs_run3 (a b c : List Byte) (ha : a.length = 16) (hb : b.length = 16) (hc : c.length = 16) (w : World) : (Instr.buildSlice 99 3 #[(0, A8 a), (1, A8 b), (2, A8 c)]).run Tryd.prog w = .ok (.slice (some ⟨w.heap.size, 0, none⟩) 3 3) (w.alloc (.cells (catV [a, b, c]).toArray 27)) := by
  obtain ⟨a0, a1, a2, a3, a4, a5, a6, a7, a8, a9, a10, a11, a12, a13, a14, a15, rfl⟩ := len16 a ha
  obtain ⟨b0, b1, b2, b3, b4, b5, b6, b7, b8, b9, b10, b11, b12, b13, b14, b15, rfl⟩ := len16 b hb
  obtain ⟨c0, c1, c2, c3, c4, c5, c6, c7, c8, c9, c10, c11, c12, c13, c14, c15, rfl⟩ := len16 c hc
  kernel_rfl
theorem gq_bs3 (hk : ∀ k ∈ ks, k.length = 16) (hb : (Instr.buildSlice T 3 #[(0, u0), (1, u1), (2, u2)]).run P w = .ok (.slice (some ⟨w.heap.size, 0, none⟩) ks.length ks.length) (w.alloc (.cells (catV ks).toArray e))) (hx0 : a.eval x0 = u0) (hx1 : a.eval x1 = u1) (hx2 : a.eval x2 = u2) : gives P w (KeysS ks) ((execOp a.eval (Oper.mk dst (.buildSlice T 3 #[(0, x0), (1, x1), (2, x2)]) ty pos aft gd)).run P w) := by
  unfold execOp
  simp [hx0, hx1, hx2, hb]
  exact gives_val (V := KeysS ks) (Ext.alloc (Ext.refl _) _) (keys_new w e ks hk)
end
theorem cell1_g {w0 w : World} {L : List Blk} {g : Nat} {t : TypeId} {v : Value} (hm : Own w0 w L) (hh : Has L ⟨g, t, [v]⟩) : ∀ (j : Nat) (u : Value), ([v] : List Value)[j]? = some u → ∃ a, (some ⟨g, 0, none⟩ : Option Addr) = some a ∧ w.cell? (a.add j) = some u := by
  intro j u hj
  cases j with
  | zero =>
    simp at hj
    subst hj
    refine ⟨_, rfl, ?_⟩
    have := row_cell (hm.row hh) 0
    exact this
  | succ j => simp at hj
theorem bs1_8 (w : World) : (Instr.buildSlice 22 1 #[(0, .int .u8 8)]).run Tryd.prog w = .ok (.slice (some ⟨w.heap.size, 0, none⟩) 1 1) (w.alloc (.cells [v8 8#8].toArray 5)) := by kernel_rfl
theorem step_nil (h : List Byte) (i j : Int) (s : Value) (w0 : World) : Calls Tryd.prog 47 #[.pointer none, A8 h, .int .i64 i, .int .i64 j, s] w0 fun e w' => e = .returned (.slice none 0 0) ∧ Ext w0 w' := by
  have hm := Own.start w0
  go_enter Tryd.func47, Tryd.ntmps47
  go_wp2_with (first | ((first | ((with_reducible show wpList _ _ _ (Oper.mk _ (Op.box _ _) _ _ _ _ :: _) _ _); first | ((with_reducible apply wq_boxN hm); (exact rfl); (exact rfl)) | fail)); clear hm; (first | (have hx_ := g1; clear hx_; (first | (have hx_ := g2; clear hx_; (first | (have hx_ := g3; clear hx_; (first | (have hx_ := g4; clear hx_; (first | (have hx_ := g5; clear hx_; (first | (have hx_ := g6; clear hx_; (first | (have hx_ := g7; clear hx_; (first | (have hx_ := g8; clear hx_; (first | (have hx_ := g9; clear hx_; intro g10) | intro g9)) | intro g8)) | intro g7)) | intro g6)) | intro g5)) | intro g4)) | intro g3)) | intro g2)) | intro g1); intro w hm) | fail)
  go_ret
  exact ⟨rfl, hm.x⟩
set_option maxHeartbeats 8000000 in
theorem step_new (g : Nat) (F : Int → Int → List Byte → List Byte) (hF : ∀ j m x, (F j m x).length = 16) (h : List Byte) (hh : h.length = 16) (i : Int) (hi : 0 ≤ i) (hi2 : i ≤ 9223372036854775807) (j : Nat) (hj : j ≤ 9223372036854775807) (l : List Byte) (p : Option Addr) (c : Nat) (hl : l.length ≤ 31) (w0 : World) (hr : RdB w0 p l)
    (CE : ∀ wx, Ext w0 wx → ∀ (j m : Int) (x : List Byte), x.length = 16 → j ≤ 9223372036854775807 → m ≤ 9223372036854775807 → Gives Tryd.prog 29 #[.pointer (some ⟨g, 0, none⟩), .int .i64 j, .int .i64 m, A8 x] wx (A8 (F j m x))) :
    Calls Tryd.prog 47 #[.pointer (some ⟨g, 0, none⟩), A8 h, .int .i64 i, .int .i64 (j : Int), .slice p l.length c] w0 fun e w' => ∃ k, e = .returned (.slice (some ⟨k, 0, none⟩) l.length l.length) ∧ Own w0 w' [⟨k, 5, (stepL F h i j l).map v8⟩] := by
  have hm := Own.start w0
  obtain ⟨_, _, f3, f4⟩ := fl_tiny_at l.length hl
  have h1 := conv_if f4.of
  have CL := Lib.hid fun w (hx : Ext w0 w) => clone_sl l p c w (hr.ext hx) (by omega)
  obtain ⟨B, hB⟩ : ∃ B, B = blk (joinN (l ++ [8#8])) := ⟨_, rfl⟩
  obtain ⟨C, hC⟩ : ∃ C, C = cntB j := ⟨_, rfl⟩
  obtain ⟨S, hS⟩ : ∃ S, S = bothL (bothL B h) C := ⟨_, rfl⟩
  obtain ⟨X, hX⟩ : ∃ X, X = F 0 i S := ⟨_, rfl⟩
  have lB : B.length = 16 := by rw [hB]; exact blk_length _
  have lC : C.length = 16 := by rw [hC]; exact cntB_length _
  have lS : S.length = 16 := by rw [hS]; exact bothL_length _ _
  have lX : X.length = 16 := by rw [hX]; exact hF _ _ _
  have eR : stepL F h i j l = halvesL X 0 l.length := by rw [hX, hS, hC, hB]; rfl
  have J1 := Lib.hid fun w p2 n2 c2 (h : RdB w p2 (l ++ [8#8]) ∧ n2 = (l ++ [8#8]).length ∧ n2 ≤ c2) => show Calls Tryd.prog 48 #[.slice p2 n2 c2] w fun e w' => ∃ g, e = .returned (.slice (some ⟨g, 0, none⟩) (joinN (l ++ [8#8])).length (joinN (l ++ [8#8])).length) ∧ Own w w' [⟨g, 5, (joinN (l ++ [8#8])).map v8⟩] from by
    rw [h.2.1, joinN_length]
    exact join_new (l ++ [8#8]) p2 c2 (by simp; omega) w h.1
  have D1 := Lib.hid fun w p2 c2 (h : RdB w p2 (joinN (l ++ [8#8]))) => (hB ▸ oblock_any (joinN (l ++ [8#8])) p2 c2 w h : Gives Tryd.prog 53 #[.slice p2 (joinN (l ++ [8#8])).length c2] w (A8 B))
  have C1 := Lib.hid fun w => hC ▸ tcounted_any j hj w
  have E1 := Lib.hid fun w (hx : Ext w0 w) => hX ▸ CE w hx 0 i S lS (by omega) hi2
  have P1 := Lib.hid fun (w : World) (p : Option Addr) (c : Nat) (hc : 3 ≤ c) (hk : RdK w p 16 [B, h, C]) => show Gives Tryd.prog 75 #[.slice p 3 c] w (A8 S) from hS ▸ tplus_three _ _ _ lB p c w hk hc
  have k1 := Lib.hid (show ∀ q ∈ [B, h, C], q.length = 16 from by simp [lB, hh, lC])
  have H1 := Lib.hid fun w p2 (h : RdB w p2 X) => show Calls Tryd.prog 44 #[.slice p2 16 16, .complex .f64 0 (flv l.length)] w fun e w' => ∃ g, e = .returned (.tuple #[.slice (some ⟨g, 0, none⟩) l.length l.length, .bool true]) ∧ Own w w' [⟨g, 5, (halvesL X 0 l.length).map v8⟩] from by
    have := halves_new X p2 16 (flv 0) 0 (flv l.length) l.length (flv 32) (by rw [lX]; exact f3) (by rw [lX]; exact f4) (by omega) (by omega) w h
    rwa [lX, fl0] at this
  have FIT := Lib.hid (show (l.length + 1) * (1 + 1) ≤ 140737488355328 by omega)
  have EL := Lib.hid (show l.map v8 ++ [v8 8#8] = (l ++ [8#8]).map v8 by simp)
  have n1 : decide ((31 : Int) < (l.length : Int)) = false := decide_eq_false (by omega)
  have n2 : ¬ (31 : Int) < (l.length : Int) := by omega
  have n3 : decide (i < 0) = false := decide_eq_false (by omega)
  have n4 : ¬ i < 0 := by omega
  have n5 : decide ((j : Int) < 0) = false := decide_eq_false (by omega)
  rw [eR]
  clear hB hC hS hX eR f3 f4 hr CE hF
  generalize joinN (l ++ [8#8]) = JN at *
  generalize halvesL X 0 l.length = R at *
  generalize flv l.length = b at *
  go_enter Tryd.func47, Tryd.ntmps47
  go_wp2_with (first | ((first | ((with_reducible show wpList _ _ _ (Oper.mk _ (Op.box _ _) _ _ _ _ :: _) _ _); first | ((with_reducible apply wq_boxN hm); (exact rfl); (exact rfl)) | fail)); clear hm; (first | (have hx_ := g1; clear hx_; (first | (have hx_ := g2; clear hx_; (first | (have hx_ := g3; clear hx_; (first | (have hx_ := g4; clear hx_; (first | (have hx_ := g5; clear hx_; (first | (have hx_ := g6; clear hx_; (first | (have hx_ := g7; clear hx_; (first | (have hx_ := g8; clear hx_; (first | (have hx_ := g9; clear hx_; intro g10) | intro g9)) | intro g8)) | intro g7)) | intro g6)) | intro g5)) | intro g4)) | intro g3)) | intro g2)) | intro g1); intro w hm) | fail)
  refine (CL.out _ hm.x).mono ?_
  rintro e w ⟨v1, M1, rfl, hs1, hmM⟩
  obtain ⟨p1, c1, rfl⟩ := hs1.form
  have hm2 := Own.join hm hmM
  have HS1 := Lib.hid hs1
  clear hm hmM hs1
  try simp only [List.cons_append, List.nil_append] at hm2
  have hm := hm2
  clear hm2
  go_wp2_with (first | ((with_reducible apply wq_bs1c bs1_8 hm); exact rfl; exact rfl; clear hm; intro gy w hm) | ((with_reducible show wpList _ _ _ (Oper.mk _ (Op.call _) _ _ _ _ :: _) _ _); refine wplO_app (M := M1) (R := _) (ds := [v8 8#8]) (hm.perm (List.perm_middle.symm)) HS1.out rfl rfl rfl rfl Tryd.underlying22 rfl (cell1_g (g := gy) hm (by repeat (first | exact Has.hd | assumption | apply Has.tl | apply Has.app))) (by intro u hu; rw [List.mem_singleton.1 hu]; rfl) FIT.out ?_; clear hm; intro v2 w M2 hm hs2; obtain ⟨p_v2, c_v2, rfl⟩ := hs2.form; replace hm := hm.perm (List.perm_middle)) | fail)
  rw [EL.out] at hs2
  have hr2 := slo_bytes hs2 hm.drop
  clear hs2
  refine (J1.out _ _ _ _ hr2).mono ?_
  rintro e w ⟨g2, rfl, hmM⟩
  have hm2 := Own.join hm.drop.dropN hmM
  clear hm hmM hr2
  try simp only [List.cons_append, List.nil_append] at hm2
  have hm := hm2
  clear hm2
  go_wp2_with (first | (go_at_call 53; (with_reducible refine (D1.out _ _ _ (hm.rdB (g := g2) (l := JN) (by repeat (first | exact Has.hd | assumption | apply Has.tl | apply Has.app)))).mono ?_); rintro e_ w ⟨rfl, hx_⟩; replace hm := hm.ext hx_; clear hx_) | ((((with_reducible show wpList _ _ _ (Oper.mk _ (Op.store _ _ _) _ _ _ _ :: _) _ _); first | ((with_reducible apply wq_stW hm); (exact rfl); infer_instance; (exact rfl); (exact rfl); (focus ((repeat (first | exact .hd | assumption | apply Swap.tl | apply Swap.app)); done)); (focus (first | rfl | omega | (simp; done) | (simp; omega) | fail)); (focus (first | rfl | omega | (simp; done) | (simp; omega) | fail)); (focus (first | exact one_map _ | (simp [one8, one32, one64]; done) | fail))) | fail)); clear hm; intro w hm) | ((first | ((with_reducible show wpList _ _ _ (Oper.mk _ (Op.alloc _) _ _ _ _ :: _) _ _); first | ((with_reducible apply wq_new hm); (exact rfl); infer_instance) | fail)); clear hm; (first | (have hx_ := g1; clear hx_; (first | (have hx_ := g2; clear hx_; (first | (have hx_ := g3; clear hx_; (first | (have hx_ := g4; clear hx_; (first | (have hx_ := g5; clear hx_; (first | (have hx_ := g6; clear hx_; (first | (have hx_ := g7; clear hx_; (first | (have hx_ := g8; clear hx_; (first | (have hx_ := g9; clear hx_; intro g10) | intro g9)) | intro g8)) | intro g7)) | intro g6)) | intro g5)) | intro g4)) | intro g3)) | intro g2)) | intro g1); intro w hm) | fail)
  have hx0 := hm.x
  refine region_new 10 (fun w' => Ext _ w') 55 (by kernel_rfl) (by kernel_rfl) rfl (fun _ _ h k => h.trans k) (drew_ext _) ?_
  simp only [List.take_succ_cons, List.take_zero, List.drop_succ_cons, List.drop_zero, List.map_cons, List.map_nil]
  repeat (first
      | (apply walk_some (NewS (w.heap.size) 27 ((zer 16).map v8)) 12 (NewS.stable _ _ _) rfl rfl rfl rfl
         · (intro wx hwx; go_simp; exact gives_new (cs := (zer 16).map v8) hwx.size))
      | (apply walk_some (KeysS ([B, h, C])) 42 (KeysS.stable _) rfl rfl rfl rfl; (intro wx hwx; exact gq_bs3 (k1.out) (bs_run3 B h C lB hh lC wx) rfl rfl rfl))
      | (apply walk_from (T := [(42, KeysS [B, h, C])]) rfl rfl
         · (intro wx hwx; simp only [withS]; (rintro x_ ⟨p, c, rfl, hlc, hk'⟩); refine ⟨rfl, ?_⟩; go_simp; exact gives_call (P1.out wx p c hlc hk'))
         · (simp only [Act.put, List.setIfInBounds_toArray, List.set_cons_succ, List.set_cons_zero]; rfl))
      | (apply walk_is rfl rfl rfl
         · (intro wx hwx; first | ((with_reducible show gives _ _ _ (Sem.run _ (execOp _ (Oper.mk _ (Op.load _ _) _ _ _ _)) _)); first | ((with_reducible apply gq_ldv (hm.ext hwx)); infer_instance; (exact rfl); (focus ((repeat (first | exact .hd | assumption | apply Has.tl | apply Has.app)); done)); (focus (first | omega | (simp; omega) | (refine Nat.lt_of_lt_of_le (BitVec.isLt _) ?_; first | omega | (simp; done) | (simp; omega) | fail) | fail))) | ((with_reducible apply gq_ldW (hm.ext hwx)); infer_instance; (exact rfl); (focus ((repeat (first | exact .hd | assumption | apply Has.tl | apply Has.app)); done)); (focus (first | rfl | omega | (simp; done) | (simp; omega) | fail))) | ((with_reducible apply gq_ld1 (hm.ext hwx)); infer_instance; (exact rfl); (focus ((repeat (first | exact .hd | assumption | apply Has.tl | apply Has.app)); done)); (exact rfl)) | fail) | (go_simp; (try go_bits); first | exact gives_same | exact gives_skip | with_reducible exact gives_call (C1.out wx) | with_reducible exact gives_call (E1.out wx (hx0.trans hwx))))
         · (simp only [Act.put, List.setIfInBounds_toArray, List.set_cons_succ, List.set_cons_zero]; rfl))
      | (apply walk_not rfl rfl rfl
         · (simp only [Act.put, List.setIfInBounds_toArray, List.set_cons_succ, List.set_cons_zero]; rfl)))
  intro wz hwz
  simp only [List.zip_cons_cons, List.zip_nil_right]
  repeat rw [fin_is]
  rw [fin_cons]; intro y42 hy42
  repeat rw [fin_is]
  rw [fin_cons]; intro x12 hx12
  repeat rw [fin_is]
  rw [fin_nil]; intro hap
  simp only [Act.put, List.setIfInBounds_toArray, List.set_cons_succ, List.set_cons_zero] at hap ⊢
  clear hy42
  obtain ⟨g12_, rfl, hg12, hr12⟩ := hx12
  replace hm := hm.push hwz hg12 hr12
  clear hap hr12
  clear hx0
  go_wp2_with (first | ((((with_reducible show wpList _ _ _ (Oper.mk _ (Op.store _ _ _) _ _ _ _ :: _) _ _); first | ((with_reducible apply wq_stW hm); (exact rfl); infer_instance; (exact rfl); (exact rfl); (focus ((repeat (first | exact .hd | assumption | apply Swap.tl | apply Swap.app)); done)); (focus (first | rfl | omega | (simp; done) | (simp; omega) | fail)); (focus (first | rfl | omega | (simp; done) | (simp; omega) | fail)); (focus (first | exact one_map _ | (simp [one8, one32, one64]; done) | fail))) | fail)); clear hm; intro w hm) | fail)
  refine (H1.out _ _ (hm.rdB (g := g12_) (l := X) (by repeat (first | exact Has.hd | assumption | apply Has.tl | apply Has.app)))).mono ?_
  rintro e w ⟨g4, rfl, hmM⟩
  have hm2 := Own.join hm hmM
  clear hm hmM
  try simp only [List.cons_append, List.nil_append] at hm2
  have hm := hm2
  clear hm2
  go_wp2_with fail
  go_ret
  exact ⟨g4, rfl, own_subT hm (by repeat (first | exact List.Sublist.refl _ | exact List.nil_sublist _ | apply List.Sublist.cons_cons | apply List.Sublist.cons))⟩

end Go.Proofs.YtmgopjeaehmbfaaDoor
