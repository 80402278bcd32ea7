/-
  Layer 20: a message's parts, put together. Conditions: those written in each theorem.
  Layer 20: a message's pairs, of any number; a call that changes own blocks beside a new variable. Conditions: those written in each theorem.
-/
import Derived.Test.YtmgopjeaehmbfaaDoorCore3
import Derived.Test.YtmgopjeaehmbfaaDoorRegQ
import Derived.Test.YtmgopjeaehmbfaaDoorCore5
namespace Go.Proofs.YtmgopjeaehmbfaaDoor
open Go Go.RowKit
set_option maxRecDepth 100000
set_option linter.unusedVariables false
set_option linter.unusedSimpArgs false

/-- The cells of a part of an own block. -/
theorem cells_part {w : World} {g o n : Nat} {t : TypeId} {cs ds : List Value} (hr : Row w g t cs) (h : (cs.drop o).take n = ds) : ∀ (j : Nat) (u : Value), ds[j]? = some u → ∃ a, (some ⟨g, o, none⟩ : Option Addr) = some a ∧ w.cell? (a.add j) = some u := by
  intro j u hj
  refine ⟨_, rfl, ?_⟩
  show w.cell? ((⟨g, o, none⟩ : Addr).add j) = _
  rw [Addr.add_mid, row_cell hr]
  rw [← h, List.getElem?_take] at hj
  split at hj
  · rwa [List.getElem?_drop] at hj
  · cases hj
theorem pair_fst (ps : List Byte) (k n : Nat) (hl : ps.length = 32 * n) (hk : k < n) : ((((ps.drop (32 * k)).take 32).map v8).drop 0).take 16 = (fstB ps k).map v8 := by
  rw [List.drop_zero, ← List.map_take, fstB_of]
theorem pair_snd (ps : List Byte) (k n : Nat) (hl : ps.length = 32 * n) (hk : k < n) : ((((ps.drop (32 * k)).take 32).map v8).drop 16).take 16 = (sndB ps k).map v8 := by
  rw [← List.map_drop, sndB_of, List.take_of_length_le (by simp; omega)]
theorem take_pair (ps : List Byte) (k n : Nat) (hl : ps.length = 32 * n) (hk : k < n) : ps.take (32 * (k + 1)) = ps.take (32 * k) ++ fstB ps k ++ sndB ps k := by
  rw [List.append_assoc, fstB_of, sndB_of, List.take_append_drop, show 32 * (k + 1) = 32 * k + 32 by omega, List.take_add]

set_option maxHeartbeats 8000000 in
/-- A message's bytes. -/
theorem cbytes_any (q : Option Addr) (n cap : Nat) (c : CoreT) (pu pv : Option Addr) (cu cv : Nat) (ok : c.Ok n) (hn : n ≤ 70368744177) (w0 : World) (hp : RdB w0 q c.ps) (hnc : n ≤ cap) (hu : RdB w0 pu c.u) (hv : RdB w0 pv c.v) :
    GivesR Tryd.prog 72 #[.agg (msgC (.slice q n cap) (.slice pu c.u.length cu) (.slice pv c.v.length cv) c.x c.y).toArray] w0 (BytesS (joinT c)) := by
  unfold GivesR
  have hm := Own.start w0
  obtain ⟨ps, u, v, x, y⟩ := c
  have h1 : ps.length = 32 * n := ok.ps
  have h2 : u.length ≤ 16 := ok.u
  have h3 : v.length ≤ 15 := ok.v
  have h4 : x.length = 16 := ok.x
  have h5 : y.length = 16 := ok.y
  have HP := Lib.hid (show RdB w0 q ps from hp)
  have HU := Lib.hid (show RdB w0 pu u from hu)
  have HV := Lib.hid (show RdB w0 pv v from hv)
  have FP := Lib.hid (msg_pp (pp := .slice q n cap) (u := .slice pu u.length cu) (v := .slice pv v.length cv) (x := x) (y := y))
  have FU := Lib.hid (msg_u (pp := .slice q n cap) (u := .slice pu u.length cu) (v := .slice pv v.length cv) (x := x) (y := y))
  have FV := Lib.hid (msg_v (pp := .slice q n cap) (u := .slice pu u.length cu) (v := .slice pv v.length cv) (x := x) (y := y))
  have FX := Lib.hid (msg_x (pp := .slice q n cap) (u := .slice pu u.length cu) (v := .slice pv v.length cv) (x := x) (y := y) h4)
  have FY := Lib.hid (msg_y (pp := .slice q n cap) (u := .slice pu u.length cu) (v := .slice pv v.length cv) (x := x) (y := y) h4 h5)
  have lS := msg_length (pp := .slice q n cap) (u := .slice pu u.length cu) (v := .slice pv v.length cv) h4 h5
  show Calls Tryd.prog 72 #[.agg (msgC (.slice q n cap) (.slice pu u.length cu) (.slice pv v.length cv) x y).toArray] w0 _
  generalize msgC (.slice q n cap) (.slice pu u.length cu) (.slice pv v.length cv) x y = S at *
  have H1 := Lib.hid h1
  have TK := Lib.hid fun k hk => take_pair ps k n h1 hk
  have PF := Lib.hid fun k hk => pair_fst ps k n h1 hk
  have PS := Lib.hid fun k hk => pair_snd ps k n h1 hk
  have LF := Lib.hid fun k (hk : k < n) => fstB_length ps k (by omega)
  have LS := Lib.hid fun k (hk : k < n) => sndB_length ps k (by omega)
  have LP := Lib.hid fun k (hk : k < n) => show ((ps.drop (32 * k)).take 32).length = 32 by rw [List.length_take, List.length_drop]; omega
  clear ok hp hu hv h1
  go_enter Tryd.func72, Tryd.ntmps72
  go_wp2_with (first | ((with_reducible apply wq_ld1 hm); (exact rfl); infer_instance; (exact rfl); (focus ((repeat (first | exact .hd | assumption | apply Has.tl | apply Has.app)); done)); (exact FP.out)) | ((first | ((with_reducible show wpList _ _ _ (Oper.mk _ (Op.box _ _) _ _ _ _ :: _) _ _); first | ((with_reducible apply wq_boxN hm); (exact rfl); (exact rfl)) | fail)); clear hm; (first | (have hx_ := g1; clear hx_; (first | (have hx_ := g2; clear hx_; (first | (have hx_ := g3; clear hx_; (first | (have hx_ := g4; clear hx_; (first | (have hx_ := g5; clear hx_; (first | (have hx_ := g6; clear hx_; (first | (have hx_ := g7; clear hx_; (first | (have hx_ := g8; clear hx_; (first | (have hx_ := g9; clear hx_; intro g10) | intro g9)) | intro g8)) | intro g7)) | intro g6)) | intro g5)) | intro g4)) | intro g3)) | intro g2)) | intro g1); intro w hm) | fail)
  go_loopw [3, 9] (fun o i wr => ∃ (k : Nat) (M : List Blk), k ≤ n ∧ i = .int .i64 k ∧ SlO M 5 1 o (32 * k) ((ps.take (32 * k)).map v8) ∧ Own w0 wr (M ++ [⟨g1, 107, S⟩])) (fun _ i _ => n - (intOf i).toNat)
  case atStart => exact ⟨0, [], by omega, rfl, SlO.nil _ _, hm⟩
  case round =>
    obtain ⟨k, M, hk, rfl, hso, hm⟩ := hrel
    obtain ⟨po, co, rfl⟩ := hso.form
    have HSO := Lib.hid hso
    obtain ⟨L, hL⟩ : ∃ L : Nat, L = 32 * k := ⟨_, rfl⟩
    rw [← hL] at HSO ⊢
    have HL := Lib.hid hL
    clear hso hL
    by_cases hlt : k < n
    · have hd : decide ((k : Int) < (n : Int)) = true := decide_eq_true (by omega)
      have hd2 : (k : Int) < (n : Int) := by omega
      obtain ⟨a, rfl⟩ := Option.isSome_iff_exists.1 (HP.out.1 (by rw [H1.out]; omega))
      have hr0 := HP.out.sub (32 * k) 32 (by rw [H1.out]; omega) (by omega)
      rw [show (some ((some a).getD default |>.add (32 * k)) : Option Addr) = some (a.add (k * 32)) by rw [Nat.mul_comm]; rfl] at hr0
      have HR := Lib.hid hr0
      have lp := LP.out k hlt
      have CF := Lib.hid (PF.out k hlt)
      have CS := Lib.hid (PS.out k hlt)
      have lf := LF.out k hlt
      have ls := LS.out k hlt
      have LA := Lib.hid (show ((fstB ps k).map v8).length = 16 * 1 by simp [lf])
      have LB := Lib.hid (show ((sndB ps k).map v8).length = 16 * 1 by simp [ls])
      have ET := Lib.hid (TK.out k hlt)
      have FIT := Lib.hid (show (L + 16) * (1 + 1) ≤ 140737488355328 ∧ (L + 16 + 16) * (1 + 1) ≤ 140737488355328 by have := HL.out; omega)
      rw [← HL.out] at ET
      generalize (ps.drop (32 * k)).take 32 = P at *
      generalize fstB ps k = A at *
      generalize sndB ps k = B at *
      generalize hT2 : ps.take (32 * (k + 1)) = T2 at *
      generalize ps.take L = T1 at *
      have HT2 := Lib.hid hT2
      clear hT2 lf ls hr0
      go_wp2_with (first | ((with_reducible apply wq_rdW (HR.out.ext hm.x)); exact rfl; infer_instance; exact rfl; exact lp) | ((((with_reducible show wpList _ _ _ (Oper.mk _ (Op.store _ _ _) _ _ _ _ :: _) _ _); first | ((with_reducible apply wq_stW hm); (exact rfl); infer_instance; (exact rfl); (exact rfl); (focus ((repeat (first | exact .hd | assumption | apply Swap.tl | apply Swap.app)); done)); (focus (first | rfl | omega | (simp; done) | (simp; omega) | fail)); (focus (first | rfl | omega | (simp; done) | (simp; omega) | fail)); (focus (first | exact one_map _ | (simp [one8, one32, one64]; done) | fail))) | fail)); clear hm; intro w hm) | ((first | ((with_reducible show wpList _ _ _ (Oper.mk _ (Op.alloc _) _ _ _ _ :: _) _ _); first | ((with_reducible apply wq_new hm); (exact rfl); infer_instance) | fail)); clear hm; (first | (have hx_ := g1; clear hx_; (first | (have hx_ := g2; clear hx_; (first | (have hx_ := g3; clear hx_; (first | (have hx_ := g4; clear hx_; (first | (have hx_ := g5; clear hx_; (first | (have hx_ := g6; clear hx_; (first | (have hx_ := g7; clear hx_; (first | (have hx_ := g8; clear hx_; (first | (have hx_ := g9; clear hx_; intro g10) | intro g9)) | intro g8)) | intro g7)) | intro g6)) | intro g5)) | intro g4)) | intro g3)) | intro g2)) | intro g1); intro w hm) | fail)
      refine pregion 7 (JA2 w0 [⟨g2, 144, P.map v8⟩, ⟨g1, 107, S⟩] 5 1 (.slice po L co) L (T1.map v8) (L + 16) (T1.map v8 ++ A.map v8) (L + 16 + 16) (T1.map v8 ++ A.map v8 ++ B.map v8)) [3, 6] 35 (by kernel_rfl) (by kernel_rfl) rfl (⟨none, none, rfl, M, (hm.perm List.perm_middle.symm).ext (drew_ext _), HSO.out⟩) ?_
      simp only [List.take_succ_cons, List.take_zero, List.drop_succ_cons, List.drop_zero, List.map_cons, List.map_nil]
      repeat (first
          | (apply pwalk_mark (T := []) 0 [] rfl rfl rfl (by kernel_rfl) rfl
             · (intro vs_ wx hJ_ hn_ hD_; simp only [pwithS]; obtain ⟨a_, b_, rfl, hX_⟩ := hJ_; obtain rfl : a_ = none := (by simpa using hn_); obtain ⟨rfl, M_, hm, hs_⟩ := hX_.first; refine ⟨rfl, ?_⟩; refine wplO_app (M := M_) (ds := A.map v8) hm hs_ rfl rfl rfl rfl Tryd.underlying22 LA.out (cells_part (hm.row (by repeat (first | exact Has.hd | assumption | apply Has.tl | apply Has.app))) CF.out) (one_map _) FIT.out.1 ?_; intro v_ w_ M1_ hm1_ hs1_; exact mark_end rfl (X2.j0 hm1_ hs1_)))
          | (apply pwalk_mark (T := [(16, PMk 0)]) 1 [0] rfl rfl rfl (by kernel_rfl) rfl
             · (intro vs_ wx hJ_ hn_ hD_; simp only [pwithS]; obtain ⟨a_, b_, rfl, hX_⟩ := hJ_; obtain rfl : b_ = none := (by simpa using hn_); intro x_ hx_; obtain rfl : a_ = some x_ := (by simpa [PMk] using hx_); obtain ⟨M_, hm, hs_⟩ := hX_; refine ⟨rfl, ?_⟩; refine wplO_app (M := M_) (ds := B.map v8) hm hs_ rfl rfl rfl rfl Tryd.underlying22 LB.out (cells_part (hm.row (by repeat (first | exact Has.hd | assumption | apply Has.tl | apply Has.app))) CS.out) (one_map _) FIT.out.2 ?_; intro v_ w_ M1_ hm1_ hs1_; exact mark_end rfl (X2.j1 hm1_ hs1_)))
          | (apply pwalk_is rfl rfl rfl rfl
             · (intro vs_ wx hJ_; obtain ⟨a_, b_, rfl, hX_⟩ := hJ_; have hm := hX_.low; first | ((with_reducible show gives _ _ _ (Sem.run _ (execOp _ (Oper.mk _ (Op.load _ _) _ _ _ _)) _)); first | ((with_reducible apply gq_ldv hm); infer_instance; (exact rfl); (focus ((repeat (first | exact .hd | assumption | apply Has.tl | apply Has.app)); done)); (focus (first | omega | (simp; omega) | (refine Nat.lt_of_lt_of_le (BitVec.isLt _) ?_; first | omega | (simp; done) | (simp; omega) | fail) | fail))) | ((with_reducible apply gq_ldW hm); infer_instance; (exact rfl); (focus ((repeat (first | exact .hd | assumption | apply Has.tl | apply Has.app)); done)); (focus (first | rfl | omega | (simp; done) | (simp; omega) | fail))) | ((with_reducible apply gq_ld1 hm); infer_instance; (exact rfl); (focus ((repeat (first | exact .hd | assumption | apply Has.tl | apply Has.app)); done)); (exact rfl)) | fail) | (go_simp; (try go_bits); first | exact gives_same | exact gives_skip))
             · (simp only [Act.put, List.setIfInBounds_toArray, List.set_cons_succ, List.set_cons_zero]; rfl)))
      intro vs_ wz hJ_ hl_ hall_
      simp only [List.zip_cons_cons, List.zip_nil_right]
      repeat rw [pfin_is]
      rw [pfin_cons]; intro x16 hx16
      repeat rw [pfin_is]
      rw [pfin_cons]; intro x19 hx19
      repeat rw [pfin_is]
      rw [pfin_nil]
      simp only [Act.put, List.setIfInBounds_toArray, List.set_cons_succ, List.set_cons_zero]
      obtain ⟨a_, b_, rfl, hX_⟩ := hJ_
      obtain ⟨p_, q_, rfl, rfl⟩ := some2 hall_
      obtain rfl := pmk0 hx16
      obtain rfl := pmk1 hx19
      clear hm
      obtain ⟨M1, hm, hs1⟩ := hX_
      obtain ⟨p1, c1, rfl⟩ := hs1.form
      clear hx16 hx19 hl_ hall_
      go_wp2_with fail
      go_roundw
      case rel => exact ⟨k + 1, M1, by omega, by go_num, by rw [HT2.out, ET.out, List.map_append, List.map_append, show 32 * (k + 1) = L + 16 + 16 by have := HL.out; omega]; exact hs1, (hm.perm List.perm_middle).drop⟩
      case measure => simp [intOf] <;> omega
    · obtain rfl : k = n := by omega
      have hd : decide ((k : Int) < (k : Int)) = false := decide_eq_false (by omega)
      have e1 : ps.take L = ps := List.take_of_length_le (by rw [H1.out, HL.out]; omega)
      rw [e1] at HSO
      have FIT := Lib.hid (show (L + u.length) * (1 + 1) ≤ 140737488355328 ∧ (L + u.length + v.length) * (1 + 1) ≤ 140737488355328 ∧ (L + u.length + v.length + 16) * (1 + 1) ≤ 140737488355328 ∧ (L + u.length + v.length + 16 + 16) * (1 + 1) ≤ 140737488355328 by have := HL.out; omega)
      have LU := Lib.hid (show (u.map v8).length = u.length * 1 by simp)
      have LV := Lib.hid (show (v.map v8).length = v.length * 1 by simp)
      have LX := Lib.hid (show (x.map v8).length = 16 * 1 by simp [h4])
      have LY := Lib.hid (show (y.map v8).length = 16 * 1 by simp [h5])
      clear h2 h3 e1
      go_wp2_with fail
      refine pregion 7 (JA2 w0 [⟨g1, 107, S⟩] 5 1 (.slice po L co) L (ps.map v8) (L + u.length) (ps.map v8 ++ u.map v8) (L + u.length + v.length) (ps.map v8 ++ u.map v8 ++ v.map v8)) [3, 6] 35 (by kernel_rfl) (by kernel_rfl) rfl (⟨none, none, rfl, M, hm.ext (drew_ext _), HSO.out⟩) ?_
      simp only [List.take_succ_cons, List.take_zero, List.drop_succ_cons, List.drop_zero, List.map_cons, List.map_nil]
      repeat (first
          | (apply pwalk_is rfl rfl rfl rfl; (intro vs_ wx hJ_; obtain ⟨a_, b_, rfl, hX_⟩ := hJ_; have hm := hX_.low; (with_reducible apply gq_ld1 hm); infer_instance; (exact rfl); (focus ((repeat (first | exact .hd | assumption | apply Has.tl | apply Has.app)); done)); (exact FU.out)); (simp only [Act.put, List.setIfInBounds_toArray, List.set_cons_succ, List.set_cons_zero]; rfl))
          | (apply pwalk_is rfl rfl rfl rfl; (intro vs_ wx hJ_; obtain ⟨a_, b_, rfl, hX_⟩ := hJ_; have hm := hX_.low; (with_reducible apply gq_ld1 hm); infer_instance; (exact rfl); (focus ((repeat (first | exact .hd | assumption | apply Has.tl | apply Has.app)); done)); (exact FV.out)); (simp only [Act.put, List.setIfInBounds_toArray, List.set_cons_succ, List.set_cons_zero]; rfl))
          | (apply pwalk_mark (T := []) 0 [] rfl rfl rfl (by kernel_rfl) rfl
             · (intro vs_ wx hJ_ hn_ hD_; simp only [pwithS]; obtain ⟨a_, b_, rfl, hX_⟩ := hJ_; obtain rfl : a_ = none := (by simpa using hn_); obtain ⟨rfl, M_, hm, hs_⟩ := hX_.first; refine ⟨rfl, ?_⟩; refine wplO_app (M := M_) (ds := u.map v8) hm hs_ rfl rfl rfl rfl Tryd.underlying22 LU.out (cellsB (HU.out.ext hm.x)) (one_map _) FIT.out.1 ?_; intro v_ w_ M1_ hm1_ hs1_; exact mark_end rfl (X2.j0 hm1_ hs1_)))
          | (apply pwalk_mark (T := [(24, PMk 0)]) 1 [0] rfl rfl rfl (by kernel_rfl) rfl
             · (intro vs_ wx hJ_ hn_ hD_; simp only [pwithS]; obtain ⟨a_, b_, rfl, hX_⟩ := hJ_; obtain rfl : b_ = none := (by simpa using hn_); intro x_ hx_; obtain rfl : a_ = some x_ := (by simpa [PMk] using hx_); obtain ⟨M_, hm, hs_⟩ := hX_; refine ⟨rfl, ?_⟩; refine wplO_app (M := M_) (ds := v.map v8) hm hs_ rfl rfl rfl rfl Tryd.underlying22 LV.out (cellsB (HV.out.ext hm.x)) (one_map _) FIT.out.2.1 ?_; intro v_ w_ M1_ hm1_ hs1_; exact mark_end rfl (X2.j1 hm1_ hs1_)))
          | (apply pwalk_is rfl rfl rfl rfl
             · (intro vs_ wx hJ_; obtain ⟨a_, b_, rfl, hX_⟩ := hJ_; have hm := hX_.low; first | ((with_reducible show gives _ _ _ (Sem.run _ (execOp _ (Oper.mk _ (Op.load _ _) _ _ _ _)) _)); first | ((with_reducible apply gq_ldv hm); infer_instance; (exact rfl); (focus ((repeat (first | exact .hd | assumption | apply Has.tl | apply Has.app)); done)); (focus (first | omega | (simp; omega) | (refine Nat.lt_of_lt_of_le (BitVec.isLt _) ?_; first | omega | (simp; done) | (simp; omega) | fail) | fail))) | ((with_reducible apply gq_ldW hm); infer_instance; (exact rfl); (focus ((repeat (first | exact .hd | assumption | apply Has.tl | apply Has.app)); done)); (focus (first | rfl | omega | (simp; done) | (simp; omega) | fail))) | ((with_reducible apply gq_ld1 hm); infer_instance; (exact rfl); (focus ((repeat (first | exact .hd | assumption | apply Has.tl | apply Has.app)); done)); (exact rfl)) | fail) | (go_simp; (try go_bits); first | exact gives_same | exact gives_skip))
             · (simp only [Act.put, List.setIfInBounds_toArray, List.set_cons_succ, List.set_cons_zero]; rfl)))
      intro vs_ wz hJ_ hl_ hall_
      simp only [List.zip_cons_cons, List.zip_nil_right]
      repeat rw [pfin_is]
      rw [pfin_cons]; intro x24 hx24
      repeat rw [pfin_is]
      rw [pfin_cons]; intro x27 hx27
      repeat rw [pfin_is]
      rw [pfin_nil]
      simp only [Act.put, List.setIfInBounds_toArray, List.set_cons_succ, List.set_cons_zero]
      obtain ⟨a_, b_, rfl, hX_⟩ := hJ_
      obtain ⟨p_, q_, rfl, rfl⟩ := some2 hall_
      obtain rfl := pmk0 hx24
      obtain rfl := pmk1 hx27
      clear hm
      obtain ⟨M1, hm, hs1⟩ := hX_
      obtain ⟨p1, c1, rfl⟩ := hs1.form
      have HS1 := Lib.hid hs1
      clear hx24 hx27 hl_ hall_ hs1
      obtain ⟨w, rfl⟩ : ∃ w', w' = wz := ⟨_, rfl⟩
      go_wp2_with fail
      refine pregion 7 (JA2 w0 [⟨g1, 107, S⟩] 5 1 (.slice p1 (L + u.length + v.length) c1) (L + u.length + v.length) (ps.map v8 ++ u.map v8 ++ v.map v8) (L + u.length + v.length + 16) (ps.map v8 ++ u.map v8 ++ v.map v8 ++ x.map v8) (L + u.length + v.length + 16 + 16) (ps.map v8 ++ u.map v8 ++ v.map v8 ++ x.map v8 ++ y.map v8)) [3, 6] 35 (by kernel_rfl) (by kernel_rfl) rfl (⟨none, none, rfl, M1, hm.ext (drew_ext _), HS1.out⟩) ?_
      simp only [List.take_succ_cons, List.take_zero, List.drop_succ_cons, List.drop_zero, List.map_cons, List.map_nil]
      repeat (first
          | (apply pwalk_mark (T := []) 0 [] rfl rfl rfl (by kernel_rfl) rfl
             · (intro vs_ wx hJ_ hn_ hD_; simp only [pwithS]; obtain ⟨a_, b_, rfl, hX_⟩ := hJ_; obtain rfl : a_ = none := (by simpa using hn_); obtain ⟨rfl, M_, hm, hs_⟩ := hX_.first; refine ⟨rfl, ?_⟩; refine wplO_app (M := M_) (ds := x.map v8) hm hs_ rfl rfl rfl rfl Tryd.underlying22 LX.out (cells_part (hm.row (by repeat (first | exact Has.hd | assumption | apply Has.tl | apply Has.app))) FX.out) (one_map _) FIT.out.2.2.1 ?_; intro v_ w_ M1_ hm1_ hs1_; exact mark_end rfl (X2.j0 hm1_ hs1_)))
          | (apply pwalk_mark (T := [(31, PMk 0)]) 1 [0] rfl rfl rfl (by kernel_rfl) rfl
             · (intro vs_ wx hJ_ hn_ hD_; simp only [pwithS]; obtain ⟨a_, b_, rfl, hX_⟩ := hJ_; obtain rfl : b_ = none := (by simpa using hn_); intro x_ hx_; obtain rfl : a_ = some x_ := (by simpa [PMk] using hx_); obtain ⟨M_, hm, hs_⟩ := hX_; refine ⟨rfl, ?_⟩; refine wplO_app (M := M_) (ds := y.map v8) hm hs_ rfl rfl rfl rfl Tryd.underlying22 LY.out (cells_part (hm.row (by repeat (first | exact Has.hd | assumption | apply Has.tl | apply Has.app))) FY.out) (one_map _) FIT.out.2.2.2 ?_; intro v_ w_ M1_ hm1_ hs1_; exact mark_end rfl (X2.j1 hm1_ hs1_)))
          | (apply pwalk_is rfl rfl rfl rfl
             · (intro vs_ wx hJ_; obtain ⟨a_, b_, rfl, hX_⟩ := hJ_; have hm := hX_.low; first | ((with_reducible show gives _ _ _ (Sem.run _ (execOp _ (Oper.mk _ (Op.load _ _) _ _ _ _)) _)); first | ((with_reducible apply gq_ldv hm); infer_instance; (exact rfl); (focus ((repeat (first | exact .hd | assumption | apply Has.tl | apply Has.app)); done)); (focus (first | omega | (simp; omega) | (refine Nat.lt_of_lt_of_le (BitVec.isLt _) ?_; first | omega | (simp; done) | (simp; omega) | fail) | fail))) | ((with_reducible apply gq_ldW hm); infer_instance; (exact rfl); (focus ((repeat (first | exact .hd | assumption | apply Has.tl | apply Has.app)); done)); (focus (first | rfl | omega | (simp; done) | (simp; omega) | fail))) | ((with_reducible apply gq_ld1 hm); infer_instance; (exact rfl); (focus ((repeat (first | exact .hd | assumption | apply Has.tl | apply Has.app)); done)); (exact rfl)) | fail) | (go_simp; (try go_bits); first | exact gives_same | exact gives_skip))
             · (simp only [Act.put, List.setIfInBounds_toArray, List.set_cons_succ, List.set_cons_zero]; rfl)))
      intro vs_ wz hJ_ hl_ hall_
      simp only [List.zip_cons_cons, List.zip_nil_right]
      repeat rw [pfin_is]
      rw [pfin_cons]; intro x31 hx31
      repeat rw [pfin_is]
      rw [pfin_cons]; intro x34 hx34
      repeat rw [pfin_is]
      rw [pfin_nil]
      simp only [Act.put, List.setIfInBounds_toArray, List.set_cons_succ, List.set_cons_zero]
      obtain ⟨a_, b_, rfl, hX_⟩ := hJ_
      obtain ⟨p_, q_, rfl, rfl⟩ := some2 hall_
      obtain rfl := pmk0 hx31
      obtain rfl := pmk1 hx34
      clear hm
      obtain ⟨M2, hm, hs2⟩ := hX_
      obtain ⟨p2, c2, rfl⟩ := hs2.form
      clear hx31 hx34 hl_ hall_
      go_wp2_with fail
      go_ret
      rw [show ps.map v8 ++ u.map v8 ++ v.map v8 ++ x.map v8 ++ y.map v8 = (joinT ⟨ps, u, v, x, y⟩).map v8 by simp [joinT]] at hs2
      have hr := slo_bytes hs2 hm
      exact ⟨_, rfl, ⟨_, _, by rw [hr.2.1]; rfl, by rw [← hr.2.1]; exact hr.2.2, hr.1⟩, hm.x⟩

end Go.Proofs.YtmgopjeaehmbfaaDoor
namespace Go.Proofs.YtmgopjeaehmbfaaDoor
open Go Go.RowKit
set_option maxRecDepth 100000
set_option linter.unusedVariables false
set_option linter.unusedSimpArgs false

theorem perm_mid7 (X Y R : List Blk) : (X ++ (Y ++ R)).Perm (Y ++ (X ++ R)) := by
  rw [← List.append_assoc, ← List.append_assoc]; exact List.perm_append_comm.append_right R

set_option maxHeartbeats 2000000 in
theorem ahead_zero (q : Option Addr) (c : Nat) (u v : Value) (x y : List Byte) (hx : x.length = 16) (hy : y.length = 16) (kv : Value) (w0 : World) : Gives Tryd.prog 69 #[.agg (msgC (.slice q 0 c) u v x y).toArray, kv] w0 (A8 (zer 16)) := by
  unfold Gives
  have hm := Own.start w0
  have FP := Lib.hid (msg_pp (pp := .slice q 0 c) (u := u) (v := v) (x := x) (y := y))
  have lS := msg_length (pp := .slice q 0 c) (u := u) (v := v) hx hy
  have lz : (zer (n := 8) 16).length = 16 := zer_length
  generalize msgC (.slice q 0 c) u v x y = S at *
  go_enter Tryd.func69, Tryd.ntmps69
  go_wp2_with (first | ((with_reducible apply wq_ld1 hm); (exact rfl); infer_instance; (exact rfl); (focus ((repeat (first | exact .hd | assumption | apply Has.tl | apply Has.app)); done)); (exact FP.out)) | ((first | ((with_reducible show wpList _ _ _ (Oper.mk _ (Op.alloc _) _ _ _ _ :: _) _ _); first | ((with_reducible apply wq_new hm); (exact rfl); infer_instance) | fail) | ((with_reducible show wpList _ _ _ (Oper.mk _ (Op.box _ _) _ _ _ _ :: _) _ _); first | ((with_reducible apply wq_boxN hm); (exact rfl); (exact rfl)) | fail)); clear hm; (first | (have hx_ := g1; clear hx_; (first | (have hx_ := g2; clear hx_; (first | (have hx_ := g3; clear hx_; (first | (have hx_ := g4; clear hx_; (first | (have hx_ := g5; clear hx_; (first | (have hx_ := g6; clear hx_; (first | (have hx_ := g7; clear hx_; (first | (have hx_ := g8; clear hx_; (first | (have hx_ := g9; clear hx_; intro g10) | intro g9)) | intro g8)) | intro g7)) | intro g6)) | intro g5)) | intro g4)) | intro g3)) | intro g2)) | intro g1); intro w hm) | fail)
  go_loopw [12] (fun i wr => i = .int .i64 (0 : Int) ∧ Own w0 wr [⟨g3, 27, (zer 16).map v8⟩, ⟨g2, 27, (zer 16).map v8⟩, ⟨g1, 107, S⟩]) (fun _ _ => 0)
  case atStart => exact ⟨rfl, hm⟩
  case round =>
    obtain ⟨rfl, hm⟩ := hrel
    go_wp2_with (first | ((with_reducible show wpList _ _ _ (Oper.mk _ (Op.load _ _) _ _ _ _ :: _) _ _); first | ((with_reducible apply wq_ldW hm); (exact rfl); infer_instance; (exact rfl); (focus ((repeat (first | exact .hd | assumption | apply Has.tl | apply Has.app)); done)); (focus (first | rfl | omega | (simp; done) | (simp; omega) | fail))) | fail) | ((((with_reducible show wpList _ _ _ (Oper.mk _ (Op.store _ _ _) _ _ _ _ :: _) _ _); first | ((with_reducible apply wq_stW hm); (exact rfl); infer_instance; (exact rfl); (exact rfl); (focus ((repeat (first | exact .hd | assumption | apply Swap.tl | apply Swap.app)); done)); (focus (first | rfl | omega | (simp; done) | (simp; omega) | fail)); (focus (first | rfl | omega | (simp; done) | (simp; omega) | fail)); (focus (first | exact one_map _ | (simp [one8, one32, one64]; done) | fail))) | fail)); clear hm; intro w hm) | fail)
    refine ret_own hm rfl rfl (by infer_instance) (by repeat (first | exact Has.hd | assumption | apply Has.tl | apply Has.app)) (by first | rfl | omega | (simp only [zeros_length, zer_length, tab_length, part_length, setN_length, List.length_map, List.length_cons, List.length_nil, List.length_append, List.length_take, List.length_drop, List.length_replicate, blk_length, putL_length] <;> omega) | fail) rfl ⟨rfl, hm.x⟩
set_option maxHeartbeats 2000000 in
theorem behind_zero (q : Option Addr) (c : Nat) (u v : Value) (x y z : List Byte) (hx : x.length = 16) (hy : y.length = 16) (hz : z.length = 16) (kv : Value) (w0 : World) : Gives Tryd.prog 71 #[.agg (msgC (.slice q 0 c) u v x y).toArray, kv, A8 z] w0 (A8 (zer 16)) := by
  unfold Gives
  have hm := Own.start w0
  have FP := Lib.hid (msg_pp (pp := .slice q 0 c) (u := u) (v := v) (x := x) (y := y))
  have lS := msg_length (pp := .slice q 0 c) (u := u) (v := v) hx hy
  have lz : (zer (n := 8) 16).length = 16 := zer_length
  generalize msgC (.slice q 0 c) u v x y = S at *
  go_enter Tryd.func71, Tryd.ntmps71
  go_wp2_with (first | ((with_reducible apply wq_ld1 hm); (exact rfl); infer_instance; (exact rfl); (focus ((repeat (first | exact .hd | assumption | apply Has.tl | apply Has.app)); done)); (exact FP.out)) | ((first | ((with_reducible show wpList _ _ _ (Oper.mk _ (Op.alloc _) _ _ _ _ :: _) _ _); first | ((with_reducible apply wq_new hm); (exact rfl); infer_instance) | fail) | ((with_reducible show wpList _ _ _ (Oper.mk _ (Op.box _ _) _ _ _ _ :: _) _ _); first | ((with_reducible apply wq_boxN hm); (exact rfl); (exact rfl)) | fail)); clear hm; (first | (have hx_ := g1; clear hx_; (first | (have hx_ := g2; clear hx_; (first | (have hx_ := g3; clear hx_; (first | (have hx_ := g4; clear hx_; (first | (have hx_ := g5; clear hx_; (first | (have hx_ := g6; clear hx_; (first | (have hx_ := g7; clear hx_; (first | (have hx_ := g8; clear hx_; (first | (have hx_ := g9; clear hx_; intro g10) | intro g9)) | intro g8)) | intro g7)) | intro g6)) | intro g5)) | intro g4)) | intro g3)) | intro g2)) | intro g1); intro w hm) | fail)
  go_loopw [16] (fun i wr => i = .int .i64 (0 : Int) ∧ Own w0 wr [⟨g4, 27, (zer 16).map v8⟩, ⟨g3, 27, (zer 16).map v8⟩, ⟨g2, 27, z.map v8⟩, ⟨g1, 107, S⟩]) (fun _ _ => 0)
  case atStart => exact ⟨rfl, hm⟩
  case round =>
    obtain ⟨rfl, hm⟩ := hrel
    go_wp2_with (first | ((with_reducible show wpList _ _ _ (Oper.mk _ (Op.load _ _) _ _ _ _ :: _) _ _); first | ((with_reducible apply wq_ldW hm); (exact rfl); infer_instance; (exact rfl); (focus ((repeat (first | exact .hd | assumption | apply Has.tl | apply Has.app)); done)); (focus (first | rfl | omega | (simp; done) | (simp; omega) | fail))) | fail) | ((((with_reducible show wpList _ _ _ (Oper.mk _ (Op.store _ _ _) _ _ _ _ :: _) _ _); first | ((with_reducible apply wq_stW hm); (exact rfl); infer_instance; (exact rfl); (exact rfl); (focus ((repeat (first | exact .hd | assumption | apply Swap.tl | apply Swap.app)); done)); (focus (first | rfl | omega | (simp; done) | (simp; omega) | fail)); (focus (first | rfl | omega | (simp; done) | (simp; omega) | fail)); (focus (first | exact one_map _ | (simp [one8, one32, one64]; done) | fail))) | fail)); clear hm; intro w hm) | fail)
    refine ret_own hm rfl rfl (by infer_instance) (by repeat (first | exact Has.hd | assumption | apply Has.tl | apply Has.app)) (by first | rfl | omega | (simp only [zeros_length, zer_length, tab_length, part_length, setN_length, List.length_map, List.length_cons, List.length_nil, List.length_append, List.length_take, List.length_drop, List.length_replicate, blk_length, putL_length] <;> omega) | fail) rfl ⟨rfl, hm.x⟩

/-- A slice of pairs lies in a block with what lies ahead of it and behind it. -/
theorem sl_pair {M : List Blk} {e : TypeId} {sz n : Nat} {pp : Value} {ps : List Byte} (h : SlO M e sz pp n (ps.map v8)) (h0 : 0 < n) : ∃ (g cap : Nat) (pre post : List Value), pp = .slice (some ⟨g, pre.length, none⟩) n cap ∧ M = [⟨g, e, pairC pre post ps⟩] ∧ n ≤ cap ∧ ∀ qs : List Byte, qs.length = ps.length → SlO [⟨g, e, pairC pre post qs⟩] e sz pp n (qs.map v8) := by
  obtain ⟨hl, h⟩ := h
  rcases h with ⟨_, h1, _⟩ | ⟨g, o, cap, cur, rfl, rfl, h1, h2, h3, h4⟩
  · omega
  · have hle : n * sz ≤ cap * sz := Nat.mul_le_mul_right _ h1
    have ho : (cur.take o).length = o := by rw [List.length_take]; omega
    have hc : cur = pairC (cur.take o) (cur.drop (o + n * sz)) ps := by
      rw [pairC, ← h4, ← List.drop_drop, List.take_append_drop, List.take_append_drop]
    refine ⟨g, cap, cur.take o, cur.drop (o + n * sz), by rw [ho], by rw [← hc], h1, fun qs hq => ?_⟩
    have hq2 : (qs.map v8).length = n * sz := by rw [List.length_map] at hl ⊢; omega
    refine ⟨hq2, .inr ⟨g, o, cap, _, rfl, rfl, h1, h2, ?_, ?_⟩⟩
    · rw [pairC_length, ho, List.length_drop]
      rw [List.length_map] at hq2
      omega
    · rw [pairC]
      have hd : (cur.take o ++ (qs.map v8 ++ cur.drop (o + n * sz))).drop o = qs.map v8 ++ cur.drop (o + n * sz) := by
        have := List.drop_left (l₁ := cur.take o) (l₂ := qs.map v8 ++ cur.drop (o + n * sz))
        rwa [ho] at this
      rw [hd]
      have := List.take_left (l₁ := qs.map v8) (l₂ := cur.drop (o + n * sz))
      rwa [hq2] at this

section
variable {M R : List Blk} {pp : Value} {n : Nat} {ps : List Byte} {w0 w : World} {F : Int → Int → List Byte → List Byte} {kv : Value}
theorem ahead_sl (hm : Own w0 w (M ++ R)) (hs : SlO M 144 32 pp n (ps.map v8)) (hps : ps.length = 32 * n) (hn : n ≤ 70368744177) (u v : Value) (x y : List Byte) (hx : x.length = 16) (hy : y.length = 16) (hF : ∀ j m x, (F j m x).length = 16)
    (CE : ∀ wx, Ext w0 wx → ∀ (j m : Int) (x : List Byte), x.length = 16 → j ≤ 9223372036854775807 → m ≤ 9223372036854775807 → Gives Tryd.prog 29 #[kv, .int .i64 j, .int .i64 m, A8 x] wx (A8 (F j m x))) :
    Calls Tryd.prog 69 #[.agg (msgC pp u v x y).toArray, kv] w fun e w' => e = .returned (A8 (sumG (xF F ps) n)) ∧ ∃ M', Own w0 w' (M' ++ R) ∧ SlO M' 144 32 pp n ((oneP F ps n).map v8) := by
  rcases Nat.eq_zero_or_pos n with h0 | h0
  · subst h0
    obtain ⟨q, c, rfl⟩ := hs.form
    obtain rfl : ps = [] := List.length_eq_zero_iff.1 hps
    exact (ahead_zero q c u v x y hx hy kv w).mono fun e w' ⟨e1, e2⟩ => ⟨e1, M, hm.ext e2, hs⟩
  · obtain ⟨g, cap, pre, post, rfl, rfl, h1, h2⟩ := sl_pair hs h0
    exact (ahead_any g n cap pre post ps hps h0 h1 hn u v x y hx hy kv F hF w0 w R hm CE).mono fun e w' ⟨e1, e2⟩ => ⟨e1, _, e2, h2 _ (by rw [oneP_length, hps])⟩
theorem behind_sl (hm : Own w0 w (M ++ R)) (hs : SlO M 144 32 pp n (ps.map v8)) (hps : ps.length = 32 * n) (hn : n ≤ 70368744177) (u v : Value) (x y z : List Byte) (hx : x.length = 16) (hy : y.length = 16) (hz : z.length = 16) (hF : ∀ j m x, (F j m x).length = 16)
    (CE : ∀ wx, Ext w0 wx → ∀ (j m : Int) (x : List Byte), x.length = 16 → j ≤ 9223372036854775807 → m ≤ 9223372036854775807 → Gives Tryd.prog 29 #[kv, .int .i64 j, .int .i64 m, A8 x] wx (A8 (F j m x))) :
    Calls Tryd.prog 71 #[.agg (msgC pp u v x y).toArray, kv, A8 z] w fun e w' => e = .returned (A8 (sumG (yF F z ps) n)) ∧ ∃ M', Own w0 w' (M' ++ R) ∧ SlO M' 144 32 pp n ((glueF (fsF F z ps) n).map v8) := by
  rcases Nat.eq_zero_or_pos n with h0 | h0
  · subst h0
    obtain ⟨q, c, rfl⟩ := hs.form
    obtain rfl : ps = [] := List.length_eq_zero_iff.1 hps
    exact (behind_zero q c u v x y z hx hy hz kv w).mono fun e w' ⟨e1, e2⟩ => ⟨e1, M, hm.ext e2, hs⟩
  · obtain ⟨g, cap, pre, post, rfl, rfl, h1, h2⟩ := sl_pair hs h0
    exact (behind_any g n cap pre post ps hps h0 h1 hn u v x y hx hy kv z hz F hF w0 w R hm CE).mono fun e w' ⟨e1, e2⟩ => ⟨e1, _, e2, h2 _ (by rw [glueF_length _ (fsF_length F z ps), hps])⟩
end

/-- A call that changes the blocks of an own slice and brings a known value, beside one new variable. -/
structure CallV (w0 : World) (R : List Blk) (e : TypeId) (sz : Nat) (pp : Value) (n : Nat) (c0 c1 : List Value) (val : Value) (T : TypeId) (z : List Value) (a b : Option Value) (w : World) : Prop where
  pa : ∀ v, a = some v → v = val
  pb : ∀ v, b = some v → ∃ g, v = .pointer (some ⟨g, 0, none⟩)
  own : ∃ M, Own w0 w (blkO b none T z z ++ (M ++ R)) ∧ SlO M e sz pp n (if a.isSome then c1 else c0)
section
variable {w0 w w' : World} {R : List Blk} {e T : TypeId} {sz n g : Nat} {pp val v : Value} {c0 c1 z : List Value} {a b : Option Value}
theorem CallV.low (h : CallV w0 R e sz pp n c0 c1 val T z a b w) : Own w0 w R := by obtain ⟨M, h1, _⟩ := h.own; exact h1.dropN.dropN
theorem CallV.ext (h : CallV w0 R e sz pp n c0 c1 val T z a b w) (hx : Ext w w') : CallV w0 R e sz pp n c0 c1 val T z a b w' := by
  obtain ⟨M, h1, h2⟩ := h.own; exact ⟨h.pa, h.pb, M, h1.ext hx, h2⟩
theorem CallV.start {M : List Blk} (h : Own w0 w (M ++ R)) (hs : SlO M e sz pp n c0) : CallV w0 R e sz pp n c0 c1 val T z none none w := ⟨by simp, by simp, M, h, hs⟩
/-- Marks: the call; the new variable. -/
def KV (w0 : World) (R : List Blk) (e : TypeId) (sz : Nat) (pp : Value) (n : Nat) (c0 c1 : List Value) (val : Value) (T : TypeId) (z : List Value) : Marks where
  J s w := ∃ a b, s = [a, b] ∧ CallV w0 R e sz pp n c0 c1 val T z a b w
  Sp vs i v w w' := (∃ a b, vs.set i (some v) = [a, b] ∧ CallV w0 R e sz pp n c0 c1 val T z a b w') ∧ (i ≠ 0 → Ext w w')
  jext := fun _ _ _ ⟨a, b, e, h⟩ hx => ⟨a, b, e, h.ext hx⟩
  jmark := fun _ _ _ _ _ _ _ h => h.1
theorem CallV.call0 (h : CallV w0 R e sz pp n c0 c1 val T z none b w) : ∃ M, Own w0 w (M ++ (blkO b none T z z ++ R)) ∧ SlO M e sz pp n c0 := by
  obtain ⟨M, h1, h2⟩ := h.own; exact ⟨M, h1.perm (perm_mid7 _ _ _), h2⟩
theorem CallV.k0 {M : List Blk} (h : CallV w0 R e sz pp n c0 c1 val T z none b w) (hm : Own w0 w' (M ++ (blkO b none T z z ++ R))) (hs : SlO M e sz pp n c1) : (KV w0 R e sz pp n c0 c1 val T z).Sp [none, b] 0 val w w' :=
  ⟨⟨some val, b, rfl, fun v hv => (Option.some.inj hv).symm, h.pb, M, hm.perm (perm_mid7 _ _ _), hs⟩, fun h => absurd rfl h⟩
theorem CallV.new0 (h : CallV w0 R e sz pp n c0 c1 val T z a none w) : ∃ M, Own w0 w (M ++ R) ∧ SlO M e sz pp n (if a.isSome then c1 else c0) := h.own
theorem CallV.k1 {M : List Blk} (h : CallV w0 R e sz pp n c0 c1 val T z a none w) (hm : Own w0 w' (⟨g, T, z⟩ :: (M ++ R))) (hs : SlO M e sz pp n (if a.isSome then c1 else c0)) (hx : Ext w w') : (KV w0 R e sz pp n c0 c1 val T z).Sp [a, none] 1 (.pointer (some ⟨g, 0, none⟩)) w w' :=
  ⟨⟨a, some (.pointer (some ⟨g, 0, none⟩)), rfl, h.pa, fun v hv => ⟨g, (Option.some.inj hv).symm⟩, M, hm, hs⟩, fun _ => hx⟩
theorem CallV.fin {u : Value} (h : CallV w0 R e sz pp n c0 c1 val T z (some u) (some v) w) : u = val ∧ ∃ g M, v = .pointer (some ⟨g, 0, none⟩) ∧ Own w0 w (⟨g, T, z⟩ :: (M ++ R)) ∧ SlO M e sz pp n c1 := by
  obtain ⟨g, rfl⟩ := h.pb _ rfl
  obtain ⟨M, h1, h2⟩ := h.own
  exact ⟨h.pa _ rfl, g, M, rfl, h1, h2⟩
end
/-- A slice of these blocks, made behind the call. -/
def KeysQ (ks : List (List Byte)) : PSlot := fun v vs w => (∃ x, vs[0]? = some (some x)) ∧ KeysS ks v w
theorem KeysQ.stable {w0 : World} {R : List Blk} {e : TypeId} {sz : Nat} {pp : Value} {n : Nat} {c0 c1 : List Value} {val : Value} {T : TypeId} {z : List Value} (ks : List (List Byte)) : PStable (KV w0 R e sz pp n c0 c1 val T z).Sp (KeysQ ks) where
  ext := fun _ _ _ _ ⟨h1, h2⟩ hx => ⟨h1, KeysS.stable ks _ _ _ h2 hx⟩
  mark := fun v vs i x w w' ⟨⟨u, hu⟩, h2⟩ hn hS => by
    have h0 : i ≠ 0 := by rintro rfl; rw [hu] at hn; cases hn
    exact ⟨⟨u, by rw [List.getElem?_set_ne h0]; exact hu⟩, KeysS.stable ks _ _ _ h2 (hS.2 h0)⟩
theorem gqk_bs2 {P : Program} {dst : Option Tmp} {ty : TypeId} {pos : String} {aft : Array Edge} {gd : Option (Nat × Bool)} {a : Act} {w : World} {T e : TypeId} {u0 u1 v : Value} {x0 x1 : Operand} {ks : List (List Byte)} {b : Option Value} (hk : ∀ k ∈ ks, k.length = 16) (hb : (Instr.buildSlice T 2 #[(0, u0), (1, u1)]).run P w = .ok (.slice (some ⟨w.heap.size, 0, none⟩) ks.length ks.length) (w.alloc (.cells (catV ks).toArray e))) (hx0 : a.eval x0 = u0) (hx1 : a.eval x1 = u1) :
    gives P w (fun v' w' => KeysQ ks v' [some v, b] w') ((execOp a.eval (Oper.mk dst (.buildSlice T 2 #[(0, x0), (1, x1)]) ty pos aft gd)).run P w) := by
  unfold execOp
  simp [hx0, hx1, hb]
  exact gives_val (V := fun v' w' => KeysQ ks v' [some v, b] w') (Ext.alloc (Ext.refl _) _) ⟨⟨v, rfl⟩, keys_new w e ks hk⟩

end Go.Proofs.YtmgopjeaehmbfaaDoor
