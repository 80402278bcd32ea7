/-
  Layer 20, the document's: what u and v bring. Conditions: those written in each theorem.
  Layer 14, the document's: the parts of a long message. Conditions: those written in each theorem.
  Layer 20, the document's: blocks laid one by one, two slices made in whatever order. Conditions: those written in each theorem.
-/
import Derived.Test.YtaijfigohlkccaaGreatDoorZCoreTurns0
import Derived.Test.YtaijfigohlkccaaGreatDoorZCoreTurns22
import Derived.Test.YtaijfigohlkccaaGreatDoorZCoreTurns14
import Derived.Test.YtaijfigohlkccaaGreatDoorZCoreTurns28
set_option linter.unusedSimpArgs false
set_option linter.unusedVariables false
namespace Go.Proofs.YtaijfigohlkccaaGreatDoor
open Go Go.RowKit
set_option maxRecDepth 100000
def Y4 (w0 : World) (R : List Blk) (e : TypeId) (sz : Nat) (n1 : Nat) (cs1 : List Value) (u0 : Value) (n2 : Nat) (cs2 : List Value) (a b c d : Option Value) (w : World) : Prop :=
 ∃ Mc, (match c with | none => Mc = [] | some v => ∃ g, v = .slice (some ⟨g, 0, none⟩) 1 1 ∧ Mc = [⟨g, e, [u0]⟩]) ∧
   match a, b, d with
   | none, none, none => Own w0 w (Mc ++ R)
   | some v, none, none => SlAt w0 (Mc ++ R) e sz v 0 [] w
   | some _, some v, none => SlAt w0 (Mc ++ R) e sz v n1 cs1 w
   | some _, some _, some v => SlAt w0 (Mc ++ R) e sz v n2 cs2 w
   | _, _, _ => False
section
variable {w0 w w' : World} {R M Mc : List Blk} {e : TypeId} {sz n1 n2 g : Nat} {cs1 cs2 : List Value} {u0 : Value} {a b c d : Option Value} {u v x y : Value}
theorem Y4.ext (h : Y4 w0 R e sz n1 cs1 u0 n2 cs2 a b c d w) (hx : Ext w w') : Y4 w0 R e sz n1 cs1 u0 n2 cs2 a b c d w' := by
 obtain ⟨Mc, h1, h2⟩ := h
 refine ⟨Mc, h1, ?_⟩
 cases a <;> cases b <;> cases d <;> first | exact Own.ext h2 hx | exact SlAt.ext h2 hx | exact h2
theorem Y4.low (h : Y4 w0 R e sz n1 cs1 u0 n2 cs2 a b c d w) : Own w0 w R := by
 obtain ⟨Mc, _, h2⟩ := h
 cases a <;> cases b <;> cases d <;> first | exact Own.dropN h2 | exact (SlAt.low h2).dropN | exact h2.elim
theorem Y4.at0 (h : Y4 w0 R e sz n1 cs1 u0 n2 cs2 none b c d w) : b = none ∧ d = none ∧ ∃ Mc, (match c with | none => Mc = [] | some v => ∃ g, v = .slice (some ⟨g, 0, none⟩) 1 1 ∧ Mc = [⟨g, e, [u0]⟩]) ∧ Own w0 w (Mc ++ R) := by
 obtain ⟨Mc, h1, h2⟩ := h
 cases b <;> cases d <;> first | exact ⟨rfl, rfl, Mc, h1, h2⟩ | exact h2.elim
theorem Y4.at1 (h : Y4 w0 R e sz n1 cs1 u0 n2 cs2 (some v) none c d w) : d = none ∧ ∃ Mc, (match c with | none => Mc = [] | some v => ∃ g, v = .slice (some ⟨g, 0, none⟩) 1 1 ∧ Mc = [⟨g, e, [u0]⟩]) ∧ SlAt w0 (Mc ++ R) e sz v 0 [] w := by
 obtain ⟨Mc, h1, h2⟩ := h
 cases d
 · exact ⟨rfl, Mc, h1, h2⟩
 · exact h2.elim
theorem Y4.at3 (h : Y4 w0 R e sz n1 cs1 u0 n2 cs2 a (some v) (some x) none w) : ∃ u g, a = some u ∧ x = .slice (some ⟨g, 0, none⟩) 1 1 ∧ SlAt w0 (⟨g, e, [u0]⟩ :: R) e sz v n1 cs1 w := by
 obtain ⟨Mc, ⟨g, h1, rfl⟩, h2⟩ := h
 cases a
 · exact h2.elim
 · exact ⟨_, g, rfl, h1, h2⟩
theorem Y4.fin (h : Y4 w0 R e sz n1 cs1 u0 n2 cs2 a b c (some v) w) : ∃ u x Mc, a = some u ∧ b = some x ∧ SlAt w0 (Mc ++ R) e sz v n2 cs2 w := by
 obtain ⟨Mc, h1, h2⟩ := h
 cases a <;> cases b <;> first | exact ⟨_, _, Mc, rfl, rfl, h2⟩ | exact h2.elim
def JY4 (w0 : World) (R : List Blk) (e : TypeId) (sz : Nat) (n1 : Nat) (cs1 : List Value) (u0 : Value) (n2 : Nat) (cs2 : List Value) : Marks :=
 Marks.of (fun s w => ∃ a b c d, s = [a, b, c, d] ∧ Y4 w0 R e sz n1 cs1 u0 n2 cs2 a b c d w) fun _ _ _ ⟨a, b, c, d, e, h⟩ hx => ⟨a, b, c, d, e, h.ext hx⟩
theorem Y4.j0 (h1 : match c with | none => Mc = [] | some v => ∃ g, v = .slice (some ⟨g, 0, none⟩) 1 1 ∧ Mc = [⟨g, e, [u0]⟩]) (hm : Own w0 w (⟨g, e, []⟩ :: (Mc ++ R))) (hs : SlO [⟨g, e, []⟩] e sz v 0 []) : (JY4 w0 R e sz n1 cs1 u0 n2 cs2).J (([none, none, c, none] : List (Option Value)).set 0 (some v)) w := ⟨some v, none, c, none, rfl, Mc, h1, _, hm, hs⟩
theorem Y4.j1 (h1 : match c with | none => Mc = [] | some v => ∃ g, v = .slice (some ⟨g, 0, none⟩) 1 1 ∧ Mc = [⟨g, e, [u0]⟩]) (hm : Own w0 w (M ++ (Mc ++ R))) (hs : SlO M e sz v n1 cs1) : (JY4 w0 R e sz n1 cs1 u0 n2 cs2).J (([some u, none, c, none] : List (Option Value)).set 1 (some v)) w := ⟨some u, some v, c, none, rfl, Mc, h1, M, hm, hs⟩
theorem Y4.j3 (hm : Own w0 w (M ++ (⟨g, e, [u0]⟩ :: R))) (hs : SlO M e sz v n2 cs2) : (JY4 w0 R e sz n1 cs1 u0 n2 cs2).J (([some u, some x, some (.slice (some ⟨g, 0, none⟩) 1 1), none] : List (Option Value)).set 3 (some v)) w := ⟨some u, some x, _, some v, rfl, [⟨g, e, [u0]⟩], ⟨g, rfl, rfl⟩, M, hm, hs⟩
theorem Y4.at2 (h : Y4 w0 R e sz n1 cs1 u0 n2 cs2 a b none d w) : ∃ M, Own w0 w (M ++ R) ∧ ∀ w' g, Own w0 w' (⟨g, e, [u0]⟩ :: (M ++ R)) → (JY4 w0 R e sz n1 cs1 u0 n2 cs2).J (([a, b, none, d] : List (Option Value)).set 2 (some (.slice (some ⟨g, 0, none⟩) 1 1))) w' := by
 obtain ⟨Mc, rfl, h2⟩ := h
 have key : ∀ M w' g, Own w0 w' (⟨g, e, [u0]⟩ :: (M ++ R)) → Own w0 w' (M ++ ([⟨g, e, [u0]⟩] ++ R)) := fun M w' g h => h.perm List.perm_middle.symm
 cases a <;> cases b <;> cases d
 case none.none.none => exact ⟨[], h2, fun w' g h => ⟨none, none, some _, none, rfl, _, ⟨g, rfl, rfl⟩, h⟩⟩
 case some.none.none => obtain ⟨M, k1, k2⟩ := h2; exact ⟨M, k1, fun w' g h => ⟨some _, none, some _, none, rfl, _, ⟨g, rfl, rfl⟩, M, key M w' g h, k2⟩⟩
 case some.some.none => obtain ⟨M, k1, k2⟩ := h2; exact ⟨M, k1, fun w' g h => ⟨some _, some _, some _, none, rfl, _, ⟨g, rfl, rfl⟩, M, key M w' g h, k2⟩⟩
 case some.some.some => obtain ⟨M, k1, k2⟩ := h2; exact ⟨M, k1, fun w' g h => ⟨some _, some _, some _, some _, rfl, _, ⟨g, rfl, rfl⟩, M, key M w' g h, k2⟩⟩
 all_goals exact h2.elim
end
theorem cell1_q {w0 w : World} {L : List Blk} {g : Nat} {t : TypeId} {v : Value} (hm : Own w0 w L) (hh : Has L ⟨g, t, [v]⟩) : ∀ (j : Nat) (u : Value), ([v] : List Value)[j]? = some u → ∃ a, (some ⟨g, 0, none⟩ : Option Addr) = some a ∧ w.cell? (a.add j) = some u := by
 intro j u hj
 cases j with
 | zero =>
   simp at hj
   subst hj
   refine ⟨_, rfl, ?_⟩
   have := row_cell (hm.row hh) 0
   exact this
 | succ j => simp at hj
theorem build_z16t (w : World) : (Instr.build 36 #[]).run Tryz.prog w = .ok (A8 (zer 16)) w := by kernel_rfl
set_option maxHeartbeats 8000000 in
theorem rtail_any (R : List Byte) (hR : R.length = 560) (F : Int → Int → List Byte → List Byte) (hF : ∀ j m x, (F j m x).length = 16) (u v : List Byte) (pu pv : Option Addr) (cu cv : Nat) (hu16 : u.length ≤ 16) (hv16 : v.length ≤ 16) (w0 : World) (hu : RdB w0 pu u) (hv : RdB w0 pv v)
   (CE : ∀ wx, Ext w0 wx → ∀ (j m : Int) (x : List Byte), x.length = 16 → -1 ≤ j → j ≤ 9223372036854775807 → 0 ≤ m → m ≤ 9223372036854775807 → Gives Tryz.prog 44 #[A8 R, .int .i64 j, .int .i64 m, A8 x] wx (A8 (F j m x))) :
   Gives Tryz.prog 45 #[A8 R, .slice pu u.length cu, .slice pv v.length cv] w0 (A8 (tailL F u v)) := by
 unfold Gives
 have hm := Own.start w0
 have HU := Lib.hid hu
 have HV := Lib.hid hv
 have lz : (zer (n := 8) 16).length = 16 := zer_length
 by_cases h0 : u.length = 0
 · have eT : tailL F u v = zer 16 := if_pos h0
   rw [eT]
   have a1 : ((u.length : Int) == 0) = true := by rw [h0]; rfl
   have a2 : (u.length : Int) = 0 := by omega
   have BZ := Lib.hid build_z16t
   clear eT h0 hu hv CE hF
   go_enter Tryz.func45, Tryz.ntmps45
   go_wp2_with (first | ((with_reducible apply wq_build0 BZ.out); exact rfl) | ((((with_reducible show qSt); first | ((with_reducible apply wq_stW hm); exact rfl; infer_instance; exact rfl; exact rfl; (focus ((repeat (first | exact .hd | assumption | apply Swap.tl | apply Swap.app)); done)); (focus (first | rfl | omega | (simp; done) | (simp; omega))); (focus (first | rfl | omega | (simp; done) | (simp; omega))); (focus (first | exact one_map _ | (simp [one8, one32, one64]; done)))))); clear hm; intro w hm) | ((first | ((with_reducible show qAl); first | ((with_reducible apply wq_new hm); exact rfl; infer_instance)) | ((with_reducible show qBx); first | ((with_reducible apply wq_boxN hm); exact rfl; exact rfl))); clear hm; (first | (have hx_ := g1; clear hx_; (first | (have hx_ := g2; clear hx_; intro gx_) | intro g2)) | intro g1); intro w hm))
   refine ret_own hm rfl rfl (by infer_instance) (by repeat (first | exact Has.hd | assumption | apply Has.tl | apply Has.app)) (by first | rfl | omega | (simp only [zeros_length, zer_length, tab_length, part_length, setN_length, List.length_map, List.length_cons, List.length_nil, List.length_append, List.length_take, List.length_drop, List.length_replicate, blk_length, putL_length] <;> omega)) rfl ⟨rfl, hm.x⟩
 have a1 : ((u.length : Int) == 0) = false := by rw [beq_eq_false_iff_ne]; omega
 have a2 : ¬ (u.length : Int) = 0 := by omega
 have FIT0 := Lib.hid (show (0 + u.length) * (1 + 1) ≤ 140737488355328 by omega)
 by_cases h16 : u.length = 16
 · have eT : tailL F u v = bothL (F 0 4 u) (F 0 5 (blk (v ++ [128#8]))) := by rw [tailL, if_neg h0, if_pos h16]
   rw [eT]
   have a3 : decide ((u.length : Int) < 16) = false := decide_eq_false (by omega)
   have a4 : ¬ (u.length : Int) < 16 := by omega
   obtain ⟨X1, hX1⟩ : ∃ X, X = F 0 4 u := ⟨_, rfl⟩
   obtain ⟨BV, hBV⟩ : ∃ X, X = blk (v ++ [128#8]) := ⟨_, rfl⟩
   obtain ⟨X2, hX2⟩ : ∃ X, X = F 0 5 BV := ⟨_, rfl⟩
   have l1 : X1.length = 16 := by rw [hX1]; exact hF _ _ _
   have l2 : X2.length = 16 := by rw [hX2]; exact hF _ _ _
   have lB : BV.length = 16 := by rw [hBV]; exact blk_length _
   have B0 := Lib.hid fun w (h : RdB w pu u) => show Gives Tryz.prog 39 #[.slice pu u.length cu] w (A8 u) from by
     have := rblock_any u pu cu w h (by omega)
     rwa [blk_self u h16] at this
   have E0 := Lib.hid fun w (h : Ext w0 w) => (hX1 ▸ CE w h 0 4 u h16 (by omega) (by omega) (by omega) (by omega) : Gives Tryz.prog 44 #[A8 R, .int .i64 0, .int .i64 4, A8 u] w (A8 X1))
   have B1 := Lib.hid fun w p c (h : RdB w p (v ++ [128#8])) => show Gives Tryz.prog 39 #[.slice p (v.length + 1) c] w (A8 BV) from by
     have := rblock_any (v ++ [128#8]) p c w h (by simp; omega)
     rwa [← hBV, show (v ++ [128#8]).length = v.length + 1 by simp] at this
   have E1 := Lib.hid fun w (h : Ext w0 w) => (hX2 ▸ CE w h 0 5 BV lB (by omega) (by omega) (by omega) (by omega) : Gives Tryz.prog 44 #[A8 R, .int .i64 0, .int .i64 5, A8 BV] w (A8 X2))
   have S1 := Lib.hid fun w => sixteen_any X1 X2 l1 l2 w
   rw [← hX1, ← hBV, ← hX2]
   have FIT0 := Lib.hid (show (0 + v.length) * (1 + 1) ≤ 140737488355328 by omega)
   have FIT1 := Lib.hid (show (v.length + 1) * (1 + 1) ≤ 140737488355328 by omega)
   have LV := Lib.hid (show (v.map v8).length = v.length * 1 by simp)
   have EU := Lib.hid (show [] ++ v.map v8 ++ [v8 128#8] = (v ++ [128#8]).map v8 by simp)
   have lY := bothL_length X1 X2
   generalize bothL X1 X2 = Y at *
   clear eT h0 hu hv CE hF hX1 hX2 hBV h16
   go_enter Tryz.func45, Tryz.ntmps45
   go_wp2_with (first | ((first | ((with_reducible show qAl); first | ((with_reducible apply wq_new hm); exact rfl; infer_instance)) | ((with_reducible show qBx); first | ((with_reducible apply wq_boxN hm); exact rfl; exact rfl))); clear hm; (first | (have hx_ := g1; clear hx_; (first | (have hx_ := g2; clear hx_; intro gx_) | intro g2)) | intro g1); intro w hm))
   have hx0 := hm.x
   have c0 := fun wx (hwx : Ext w wx) => B0.out wx (HU.out.ext (hx0.trans hwx))
   have c1 := fun wx (hwx : Ext w wx) => E0.out wx (hx0.trans hwx)
   refine region_new 5 (fun w' => Ext _ w') 37 (by kernel_rfl) (by kernel_rfl) rfl (fun _ _ h k => h.trans k) (drew_ext _) ?_
   simp only [tSC, List.take_zero, dSC, List.drop_zero, List.map_cons, List.map_nil]
   repeat (first
       | (apply walk_some (NewS (w.heap.size) 36 ((zer 16).map v8)) 7 (NewS.stable _ _ _) rfl rfl rfl rfl
          · (intro wx hwx; go_simp; exact gives_new (cs := (zer 16).map v8) hwx.size))
       | (apply walk_is rfl rfl rfl
          · (intro wx hwx; first | ((with_reducible show gives _ _ _ (Sem.run _ (execOp _ (Oper.mk _ (Op.load _ _) _ _ _ _)) _)); first | ((with_reducible apply gq_ldv (hm.ext hwx)); infer_instance; exact rfl; (focus ((repeat (first | exact .hd | assumption | apply Has.tl | apply Has.app)); done)); (focus (first | omega | (simp; omega) | (refine ltB ?_; first | omega | (simp; done) | (simp; omega))))) | ((with_reducible apply gq_ldW (hm.ext hwx)); infer_instance; exact rfl; (focus ((repeat (first | exact .hd | assumption | apply Has.tl | apply Has.app)); done)); (focus (first | rfl | omega | (simp; done) | (simp; omega)))) | ((with_reducible apply gq_ld1 (hm.ext hwx)); infer_instance; exact rfl; (focus ((repeat (first | exact .hd | assumption | apply Has.tl | apply Has.app)); done)); exact rfl)) | (go_simp; (try go_bits); first | exact gives_same | exact gives_skip | with_reducible exact gives_call (c0 wx hwx) | with_reducible exact gives_call (c1 wx hwx)))
          · (simp only [Act.put, sIB, sCS, sCZ]; rfl))
       | (apply walk_not rfl rfl rfl
          · (simp only [Act.put, sIB, sCS, sCZ]; rfl)))
   intro wz hwz
   simp only [zCC, zNR]
   repeat rw [fin_is]
   rw [fin_cons]; intro x7 hx7
   repeat rw [fin_is]
   rw [fin_nil]; intro hap
   simp only [Act.put, sIB, sCS, sCZ] at hap ⊢
   obtain ⟨g7_, rfl, hg7, hr7⟩ := hx7
   replace hm := hm.push hwz hg7 hr7
   clear hap hr7
   clear c0 c1 hx0
   go_wp2_with (first | ((((with_reducible show qSt); first | ((with_reducible apply wq_stW hm); exact rfl; infer_instance; exact rfl; exact rfl; (focus ((repeat (first | exact .hd | assumption | apply Swap.tl | apply Swap.app)); done)); (focus (first | rfl | omega | (simp; done) | (simp; omega))); (focus (first | rfl | omega | (simp; done) | (simp; omega))); (focus (first | exact one_map _ | (simp [one8, one32, one64]; done)))))); clear hm; intro w hm))
   refine pregion 10 (JY4 w0 [⟨g7_, 36, X1.map v8⟩, ⟨g2, 36, (zer 16).map v8⟩, ⟨g1, 39, R.map v8⟩] 5 1 v.length ([] ++ v.map v8) (v8 128#8) (v.length + 1) ([] ++ v.map v8 ++ [v8 128#8])) [2, 4, 5, 6] 37 (by kernel_rfl) (by kernel_rfl) rfl (⟨none, none, none, none, rfl, [], rfl, hm.ext (drew_ext _)⟩) ?_
   simp only [tSC, List.take_zero, dSC, List.drop_zero, List.map_cons, List.map_nil]
   repeat (first
       | (apply pwalk_mark (T := []) 0 [] rfl rfl rfl (by kernel_rfl) rfl
          · (intro vs_ wx hJ_ hn_ hD_; simp only [pwithS]; obtain ⟨a_, b_, c_, d_, rfl, hX_⟩ := hJ_; obtain rfl : a_ = none := (by simpa using hn_); obtain ⟨rfl, rfl, Mc_, h1_, hm⟩ := hX_.at0; refine ⟨rfl, ?_⟩; (with_reducible apply wq_bs0 bs0_b hm); exact rfl; clear hm; intro gz w_ hm; exact mark_end rfl (Y4.j0 h1_ hm (slo_room0 _ _ 1))))
       | (apply pwalk_mark (T := [(29, PMk 0)]) 1 [0] rfl rfl rfl (by kernel_rfl) rfl
          · (intro vs_ wx hJ_ hn_ hD_; simp only [pwithS]; obtain ⟨a_, b_, c_, d_, rfl, hX_⟩ := hJ_; obtain rfl : b_ = none := (by simpa using hn_); intro x_ hx_; obtain rfl : a_ = some x_ := (by simpa [PMk] using hx_); obtain ⟨rfl, Mc_, h1_, M_, hm, hs_⟩ := hX_.at1; refine ⟨rfl, ?_⟩; refine wplO_app (M := M_) (ds := v.map v8) hm hs_ rfl rfl rfl rfl Tryz.underlying22 LV.out (cellsB (HV.out.ext hm.x)) (one_map _) FIT0.out ?_; intro v_ w_ M1_ hm1_ hs1_; rw [Nat.zero_add] at hs1_; exact mark_end rfl (Y4.j1 h1_ hm1_ hs1_)))
       | (apply pwalk_mark (T := []) 2 [] rfl rfl rfl (by kernel_rfl) rfl
          · (intro vs_ wx hJ_ hn_ hD_; simp only [pwithS]; obtain ⟨a_, b_, c_, d_, rfl, hX_⟩ := hJ_; obtain rfl : c_ = none := (by simpa using hn_); obtain ⟨M_, hm, hk_⟩ := hX_.at2; refine ⟨rfl, ?_⟩; (with_reducible apply wq_bs1c bs1_128 hm); exact rfl; exact rfl; clear hm; intro gz w_ hm; exact mark_end rfl (hk_ _ _ hm)))
       | (apply pwalk_mark (T := [(32, PMk 2), (31, PMk 1)]) 3 [0, 1, 2] rfl rfl rfl (by kernel_rfl) rfl
          · (intro vs_ wx hJ_ hn_ hD_; simp only [pwithS]; obtain ⟨a_, b_, c_, d_, rfl, hX_⟩ := hJ_; obtain rfl : d_ = none := (by simpa using hn_); intro y_ hy_ x_ hx_; obtain rfl : b_ = some x_ := (by simpa [PMk] using hx_); obtain rfl : c_ = some y_ := (by simpa [PMk] using hy_); obtain ⟨u_, g_, rfl, rfl, M_, hm, hs_⟩ := hX_.at3; refine ⟨rfl, ?_⟩; refine wplO_app (M := M_) (ds := [v8 128#8]) hm hs_ rfl rfl rfl rfl Tryz.underlying22 rfl (cell1_q (g := g_) hm (by repeat (first | exact Has.hd | assumption | apply Has.tl | apply Has.app))) (by intro u hu; rw [List.mem_singleton.1 hu]; rfl) FIT1.out ?_; intro v_ w_ M1_ hm1_ hs1_; exact mark_end rfl (Y4.j3 hm1_ hs1_)))
       | (apply pwalk_from (T := [(33, PMk 3)]) rfl rfl rfl; (intro vs_ wx hJ_; simp only [pwithS]; intro x_ hx_; obtain ⟨a_, b_, c_, d_, rfl, hX_⟩ := hJ_; obtain rfl : d_ = some x_ := (by simpa [PMk] using hx_); obtain ⟨u_, y_, Mc_, rfl, rfl, M_, hm, hs_⟩ := hX_.fin; rw [EU.out] at hs_; obtain ⟨ps_, cs_, rfl⟩ := hs_.form; have hr_ := (slo_bytes hs_ hm).1; have gr_ := B1.out wx ps_ cs_ hr_; clear hs_ hr_; refine ⟨rfl, ?_⟩; go_simp; with_reducible exact gives_call gr_); (simp only [Act.put, sIB, sCS, sCZ]; rfl))
       | (apply pwalk_is rfl rfl rfl rfl
          · (intro vs_ wx hJ_; obtain ⟨a_, b_, c_, d_, rfl, hX_⟩ := hJ_; have hm := hX_.low; first | ((with_reducible show gives _ _ _ (Sem.run _ (execOp _ (Oper.mk _ (Op.load _ _) _ _ _ _)) _)); first | ((with_reducible apply gq_ldv hm); infer_instance; exact rfl; (focus ((repeat (first | exact .hd | assumption | apply Has.tl | apply Has.app)); done)); (focus (first | omega | (simp; omega) | (refine ltB ?_; first | omega | (simp; done) | (simp; omega))))) | ((with_reducible apply gq_ldW hm); infer_instance; exact rfl; (focus ((repeat (first | exact .hd | assumption | apply Has.tl | apply Has.app)); done)); (focus (first | rfl | omega | (simp; done) | (simp; omega)))) | ((with_reducible apply gq_ld1 hm); infer_instance; exact rfl; (focus ((repeat (first | exact .hd | assumption | apply Has.tl | apply Has.app)); done)); exact rfl)) | (go_simp; (try go_bits); first | exact gives_same | exact gives_skip | with_reducible exact gives_call (E1.out wx hm.x) | with_reducible exact gives_call (S1.out wx)))
          · (simp only [Act.put, sIB, sCS, sCZ]; rfl)))
   intro vs_ wz hJ_ hl_ hall_
   simp only [zCC, zNR]
   repeat rw [pfin_is]
   rw [pfin_cons]; intro x29 hx29
   repeat rw [pfin_is]
   rw [pfin_cons]; intro x31 hx31
   repeat rw [pfin_is]
   rw [pfin_cons]; intro x32 hx32
   repeat rw [pfin_is]
   rw [pfin_cons]; intro x33 hx33
   repeat rw [pfin_is]
   rw [pfin_nil]
   simp only [Act.put, sIB, sCS, sCZ]
   obtain ⟨a_, b_, c_, d_, rfl, hX_⟩ := hJ_
   clear hm
   have hm := hX_.low
   clear hx29 hx31 hx32 hx33 hl_ hall_ hX_
   go_wp2_with (first | ((((with_reducible show qSt); first | ((with_reducible apply wq_stW hm); exact rfl; infer_instance; exact rfl; exact rfl; (focus ((repeat (first | exact .hd | assumption | apply Swap.tl | apply Swap.app)); done)); (focus (first | rfl | omega | (simp; done) | (simp; omega))); (focus (first | rfl | omega | (simp; done) | (simp; omega))); (focus (first | exact one_map _ | (simp [one8, one32, one64]; done)))))); clear hm; intro w hm))
   refine ret_own hm rfl rfl (by infer_instance) (by repeat (first | exact Has.hd | assumption | apply Has.tl | apply Has.app)) (by first | rfl | omega | (simp only [zeros_length, zer_length, tab_length, part_length, setN_length, List.length_map, List.length_cons, List.length_nil, List.length_append, List.length_take, List.length_drop, List.length_replicate, blk_length, putL_length] <;> omega)) rfl ⟨rfl, hm.x⟩
 · have eT : tailL F u v = F 0 4 (blk (u ++ [128#8])) := by rw [tailL, if_neg h0, if_neg h16]
   rw [eT]
   have a3 : decide ((u.length : Int) < 16) = true := decide_eq_true (by omega)
   have a4 : (u.length : Int) < 16 := by omega
   obtain ⟨BU, hBU⟩ : ∃ X, X = blk (u ++ [128#8]) := ⟨_, rfl⟩
   obtain ⟨X1, hX1⟩ : ∃ X, X = F 0 4 BU := ⟨_, rfl⟩
   have l1 : X1.length = 16 := by rw [hX1]; exact hF _ _ _
   have lB : BU.length = 16 := by rw [hBU]; exact blk_length _
   have B1 := Lib.hid fun w p c (h : RdB w p (u ++ [128#8])) => show Gives Tryz.prog 39 #[.slice p (u.length + 1) c] w (A8 BU) from by
     have := rblock_any (u ++ [128#8]) p c w h (by simp; omega)
     rwa [← hBU, show (u ++ [128#8]).length = u.length + 1 by simp] at this
   have E1 := Lib.hid fun w (h : Ext w0 w) => (hX1 ▸ CE w h 0 4 BU lB (by omega) (by omega) (by omega) (by omega) : Gives Tryz.prog 44 #[A8 R, .int .i64 0, .int .i64 4, A8 BU] w (A8 X1))
   rw [← hBU, ← hX1]
   have FIT1 := Lib.hid (show (u.length + 1) * (1 + 1) ≤ 140737488355328 by omega)
   have LU := Lib.hid (show (u.map v8).length = u.length * 1 by simp)
   have EU := Lib.hid (show [] ++ u.map v8 ++ [v8 128#8] = (u ++ [128#8]).map v8 by simp)
   clear eT h0 hu hv CE hF hX1 hBU h16
   go_enter Tryz.func45, Tryz.ntmps45
   go_wp2_with (first | ((first | ((with_reducible show qAl); first | ((with_reducible apply wq_new hm); exact rfl; infer_instance)) | ((with_reducible show qBx); first | ((with_reducible apply wq_boxN hm); exact rfl; exact rfl))); clear hm; (first | (have hx_ := g1; clear hx_; (first | (have hx_ := g2; clear hx_; intro gx_) | intro g2)) | intro g1); intro w hm))
   refine pregion 8 (JY4 w0 [⟨g2, 36, (zer 16).map v8⟩, ⟨g1, 39, R.map v8⟩] 5 1 u.length ([] ++ u.map v8) (v8 128#8) (u.length + 1) ([] ++ u.map v8 ++ [v8 128#8])) [1, 3, 4, 5] 37 (by kernel_rfl) (by kernel_rfl) rfl (⟨none, none, none, none, rfl, [], rfl, hm.ext (drew_ext _)⟩) ?_
   simp only [tSC, List.take_zero, dSC, List.drop_zero, List.map_cons, List.map_nil]
   repeat (first
       | (apply pwalk_mark (T := []) 0 [] rfl rfl rfl (by kernel_rfl) rfl
          · (intro vs_ wx hJ_ hn_ hD_; simp only [pwithS]; obtain ⟨a_, b_, c_, d_, rfl, hX_⟩ := hJ_; obtain rfl : a_ = none := (by simpa using hn_); obtain ⟨rfl, rfl, Mc_, h1_, hm⟩ := hX_.at0; refine ⟨rfl, ?_⟩; (with_reducible apply wq_bs0 bs0_b hm); exact rfl; clear hm; intro gz w_ hm; exact mark_end rfl (Y4.j0 h1_ hm (slo_room0 _ _ 1))))
       | (apply pwalk_mark (T := [(16, PMk 0)]) 1 [0] rfl rfl rfl (by kernel_rfl) rfl
          · (intro vs_ wx hJ_ hn_ hD_; simp only [pwithS]; obtain ⟨a_, b_, c_, d_, rfl, hX_⟩ := hJ_; obtain rfl : b_ = none := (by simpa using hn_); intro x_ hx_; obtain rfl : a_ = some x_ := (by simpa [PMk] using hx_); obtain ⟨rfl, Mc_, h1_, M_, hm, hs_⟩ := hX_.at1; refine ⟨rfl, ?_⟩; refine wplO_app (M := M_) (ds := u.map v8) hm hs_ rfl rfl rfl rfl Tryz.underlying22 LU.out (cellsB (HU.out.ext hm.x)) (one_map _) FIT0.out ?_; intro v_ w_ M1_ hm1_ hs1_; rw [Nat.zero_add] at hs1_; exact mark_end rfl (Y4.j1 h1_ hm1_ hs1_)))
       | (apply pwalk_mark (T := []) 2 [] rfl rfl rfl (by kernel_rfl) rfl
          · (intro vs_ wx hJ_ hn_ hD_; simp only [pwithS]; obtain ⟨a_, b_, c_, d_, rfl, hX_⟩ := hJ_; obtain rfl : c_ = none := (by simpa using hn_); obtain ⟨M_, hm, hk_⟩ := hX_.at2; refine ⟨rfl, ?_⟩; (with_reducible apply wq_bs1c bs1_128 hm); exact rfl; exact rfl; clear hm; intro gz w_ hm; exact mark_end rfl (hk_ _ _ hm)))
       | (apply pwalk_mark (T := [(19, PMk 2), (18, PMk 1)]) 3 [0, 1, 2] rfl rfl rfl (by kernel_rfl) rfl
          · (intro vs_ wx hJ_ hn_ hD_; simp only [pwithS]; obtain ⟨a_, b_, c_, d_, rfl, hX_⟩ := hJ_; obtain rfl : d_ = none := (by simpa using hn_); intro y_ hy_ x_ hx_; obtain rfl : b_ = some x_ := (by simpa [PMk] using hx_); obtain rfl : c_ = some y_ := (by simpa [PMk] using hy_); obtain ⟨u_, g_, rfl, rfl, M_, hm, hs_⟩ := hX_.at3; refine ⟨rfl, ?_⟩; refine wplO_app (M := M_) (ds := [v8 128#8]) hm hs_ rfl rfl rfl rfl Tryz.underlying22 rfl (cell1_q (g := g_) hm (by repeat (first | exact Has.hd | assumption | apply Has.tl | apply Has.app))) (by intro u hu; rw [List.mem_singleton.1 hu]; rfl) FIT1.out ?_; intro v_ w_ M1_ hm1_ hs1_; exact mark_end rfl (Y4.j3 hm1_ hs1_)))
       | (apply pwalk_from (T := [(20, PMk 3)]) rfl rfl rfl; (intro vs_ wx hJ_; simp only [pwithS]; intro x_ hx_; obtain ⟨a_, b_, c_, d_, rfl, hX_⟩ := hJ_; obtain rfl : d_ = some x_ := (by simpa [PMk] using hx_); obtain ⟨u_, y_, Mc_, rfl, rfl, M_, hm, hs_⟩ := hX_.fin; rw [EU.out] at hs_; obtain ⟨ps_, cs_, rfl⟩ := hs_.form; have hr_ := (slo_bytes hs_ hm).1; have gr_ := B1.out wx ps_ cs_ hr_; clear hs_ hr_; refine ⟨rfl, ?_⟩; go_simp; with_reducible exact gives_call gr_); (simp only [Act.put, sIB, sCS, sCZ]; rfl))
       | (apply pwalk_is rfl rfl rfl rfl
          · (intro vs_ wx hJ_; obtain ⟨a_, b_, c_, d_, rfl, hX_⟩ := hJ_; have hm := hX_.low; first | ((with_reducible show gives _ _ _ (Sem.run _ (execOp _ (Oper.mk _ (Op.load _ _) _ _ _ _)) _)); first | ((with_reducible apply gq_ldv hm); infer_instance; exact rfl; (focus ((repeat (first | exact .hd | assumption | apply Has.tl | apply Has.app)); done)); (focus (first | omega | (simp; omega) | (refine ltB ?_; first | omega | (simp; done) | (simp; omega))))) | ((with_reducible apply gq_ldW hm); infer_instance; exact rfl; (focus ((repeat (first | exact .hd | assumption | apply Has.tl | apply Has.app)); done)); (focus (first | rfl | omega | (simp; done) | (simp; omega)))) | ((with_reducible apply gq_ld1 hm); infer_instance; exact rfl; (focus ((repeat (first | exact .hd | assumption | apply Has.tl | apply Has.app)); done)); exact rfl)) | (go_simp; (try go_bits); first | exact gives_same | exact gives_skip | with_reducible exact gives_call (E1.out wx hm.x)))
          · (simp only [Act.put, sIB, sCS, sCZ]; rfl)))
   intro vs_ wz hJ_ hl_ hall_
   simp only [zCC, zNR]
   repeat rw [pfin_is]
   rw [pfin_cons]; intro x16 hx16
   repeat rw [pfin_is]
   rw [pfin_cons]; intro x18 hx18
   repeat rw [pfin_is]
   rw [pfin_cons]; intro x19 hx19
   repeat rw [pfin_is]
   rw [pfin_cons]; intro x20 hx20
   repeat rw [pfin_is]
   rw [pfin_nil]
   simp only [Act.put, sIB, sCS, sCZ]
   obtain ⟨a_, b_, c_, d_, rfl, hX_⟩ := hJ_
   clear hm
   have hm := hX_.low
   clear hx16 hx18 hx19 hx20 hl_ hall_ hX_
   go_wp2_with (first | ((((with_reducible show qSt); first | ((with_reducible apply wq_stW hm); exact rfl; infer_instance; exact rfl; exact rfl; (focus ((repeat (first | exact .hd | assumption | apply Swap.tl | apply Swap.app)); done)); (focus (first | rfl | omega | (simp; done) | (simp; omega))); (focus (first | rfl | omega | (simp; done) | (simp; omega))); (focus (first | exact one_map _ | (simp [one8, one32, one64]; done)))))); clear hm; intro w hm))
   refine ret_own hm rfl rfl (by infer_instance) (by repeat (first | exact Has.hd | assumption | apply Has.tl | apply Has.app)) (by first | rfl | omega | (simp only [zeros_length, zer_length, tab_length, part_length, setN_length, List.length_map, List.length_cons, List.length_nil, List.length_append, List.length_take, List.length_drop, List.length_replicate, blk_length, putL_length] <;> omega)) rfl ⟨rfl, hm.x⟩
end Go.Proofs.YtaijfigohlkccaaGreatDoor
namespace Go.Proofs.YtaijfigohlkccaaGreatDoor
open Go Go.RowKit
set_option maxRecDepth 100000
section
variable {P : Program} {ops : Array Oper} {Q : Exit → Act → World → Prop} {rest : List Oper} {dst : Option Tmp} {ty : TypeId} {pos : String} {aft : Array Edge} {gd : Option (Nat × Bool)} {a : Act} {w0 w : World} {L : List Blk} {T e : TypeId} {cs : List Value}
theorem wq_bs2g {u0 u1 : Value} {x0 x1 : Operand} (hb : ∀ w, (Instr.buildSlice T 2 #[(0, u0), (1, u1)]).run P w = .ok (.slice (some ⟨w.heap.size, 0, none⟩) 2 2) (w.alloc (.cells cs.toArray e))) (hm : Own w0 w L) (hgd : Region.wanted (Oper.mk dst (.buildSlice T 2 #[(0, x0), (1, x1)]) ty pos aft gd) (yielded ops a.tmps) = true) (hx0 : a.eval x0 = u0) (hx1 : a.eval x1 = u1) (hr : ∀ g w', Own w0 w' (⟨g, e, cs⟩ :: L) → wpList P ops Q rest (a.put dst (.slice (some ⟨g, 0, none⟩) 2 2)) w') : wpList P ops Q ((Oper.mk dst (.buildSlice T 2 #[(0, x0), (1, x1)]) ty pos aft gd) :: rest) a w :=
 wpList_want hgd fun K hK => by
   unfold Oper.wp execOp
   have h := hb w
   simp [hx0, hx1, h, Sem.run_bind, Result.andThen_ok, Sem.run_pure]
   exact hK _ _ (hr _ _ (hm.alloc e cs))
theorem wq_bs1g {u0 : Value} {x0 : Operand} (hb : ∀ w, (Instr.buildSlice T 1 #[(0, u0)]).run P w = .ok (.slice (some ⟨w.heap.size, 0, none⟩) 1 1) (w.alloc (.cells cs.toArray e))) (hm : Own w0 w L) (hgd : Region.wanted (Oper.mk dst (.buildSlice T 1 #[(0, x0)]) ty pos aft gd) (yielded ops a.tmps) = true) (hx0 : a.eval x0 = u0) (hr : ∀ g w', Own w0 w' (⟨g, e, cs⟩ :: L) → wpList P ops Q rest (a.put dst (.slice (some ⟨g, 0, none⟩) 1 1)) w') : wpList P ops Q ((Oper.mk dst (.buildSlice T 1 #[(0, x0)]) ty pos aft gd) :: rest) a w :=
 wpList_want hgd fun K hK => by
   unfold Oper.wp execOp
   have h := hb w
   simp [hx0, h, Sem.run_bind, Result.andThen_ok, Sem.run_pure]
   exact hK _ _ (hr _ _ (hm.alloc e cs))
end
theorem perm_two (M R : List Blk) (a b : Blk) : (a :: b :: (M ++ R)).Perm (M ++ (a :: b :: R)) := (List.perm_middle.symm.cons a).trans List.perm_middle.symm
def prtV (k a n : Nat) : List Value := [.int .i64 (k : Int), .int .i64 (a : Int), .int .i64 (n : Int)]
theorem prtV_length (k a n : Nat) : (prtV k a n).length = 3 := rfl
theorem prtV_one (k a n : Nat) : ∀ v ∈ prtV k a n, v.oneCell' = true := by
 intro v hv
 simp only [prtV, List.mem_cons, List.not_mem_nil, or_false] at hv
 rcases hv with rfl | rfl | rfl <;> rfl
theorem prt_run2 (k a n k' a' n' : Int) (w : World) : (Instr.buildSlice 78 2 #[(0, .agg #[.int .i64 k, .int .i64 a, .int .i64 n]), (1, .agg #[.int .i64 k', .int .i64 a', .int .i64 n'])]).run Tryz.prog w = .ok (.slice (some ⟨w.heap.size, 0, none⟩) 2 2) (w.alloc (.cells [.int .i64 k, .int .i64 a, .int .i64 n, .int .i64 k', .int .i64 a', .int .i64 n'].toArray 85)) := by kernel_rfl
theorem prt_run1 (k a n : Int) (w : World) : (Instr.buildSlice 78 1 #[(0, .agg #[.int .i64 k, .int .i64 a, .int .i64 n])]).run Tryz.prog w = .ok (.slice (some ⟨w.heap.size, 0, none⟩) 1 1) (w.alloc (.cells [.int .i64 k, .int .i64 a, .int .i64 n].toArray 85)) := by kernel_rfl
instance elemPrt : Elem Tryz.prog 85 3 24 := Elem.of (by kernel_rfl) (by omega)
theorem cells_row {w0 w : World} {L : List Blk} {g : Nat} {t : TypeId} {cs : List Value} (hm : Own w0 w L) (hh : Has L ⟨g, t, cs⟩) : ∀ (j : Nat) (u : Value), cs[j]? = some u → ∃ a, (some ⟨g, 0, none⟩ : Option Addr) = some a ∧ w.cell? (a.add j) = some u := by
 intro j u hj
 refine ⟨_, rfl, ?_⟩
 rw [Addr.add_mid, row_cell (hm.row hh), Nat.zero_add]; exact hj
def headC : Nat → List Value
 | 0 => []
 | k + 1 => headC k ++ (prtV 4 (32 * k) 16 ++ prtV 5 (32 * k + 16) 16)
theorem headC_length : ∀ k, (headC k).length = 6 * k
 | 0 => rfl
 | k + 1 => by rw [headC, List.length_append, headC_length k, List.length_append, prtV_length, prtV_length]; omega
def midC (p d : Nat) : List Value := if d = 0 then [] else if d < 16 then prtV 6 (32 * p) d else prtV 6 (32 * p) 16 ++ prtV 7 (32 * p + 16) (d - 16)
def endC (p d : Nat) : List Value := prtV 8 (32 * p + d) 16 ++ prtV 9 (32 * p + d + 16) 16
def midN (d : Nat) : Nat := if d = 0 then 0 else if d < 16 then 1 else 2
def partC (p d : Nat) : List Value := headC p ++ (midC p d ++ endC p d)
set_option maxHeartbeats 8000000 in
theorem rparts_any (n p d : Nat) (hn : n = 32 * p + 32 + d) (hd : d < 32) (hp : p ≤ 8) (w0 : World) :
   Calls Tryz.prog 42 #[.int .i64 3, .int .i64 (n : Int)] w0 fun e w' => ∃ v M, e = .returned (.tuple #[v, .int .i64 0]) ∧ SlO M 85 3 v (2 * p + (midN d + 2)) (partC p d) ∧ Own w0 w' M := by
 have hm := Own.start w0
 obtain ⟨A, hA⟩ : ∃ A, A = 32 * p := ⟨_, rfl⟩
 obtain ⟨E0, hE0⟩ : ∃ A, A = 32 * p + d := ⟨_, rfl⟩
 obtain ⟨E1, hE1⟩ : ∃ A, A = 32 * p + d + 16 := ⟨_, rfl⟩
 obtain ⟨A16, hA16⟩ : ∃ A, A = 32 * p + 16 := ⟨_, rfl⟩
 obtain ⟨D16, hD16⟩ : ∃ A, A = d - 16 := ⟨_, rfl⟩
 have x1 : (n : Int) - 32 = (E0 : Int) := by omega
 have x2 : (E0 : Int).tdiv 32 = (p : Int) := by rw [Int.tdiv_eq_ediv_of_nonneg (by omega)]; omega
 have x2' : (E0 : Int) / 32 = (p : Int) := by omega
 have x3 : (32 : Int) * (p : Int) = (A : Int) := by omega
 have x4 : (E0 : Int) - (A : Int) = (d : Int) := by omega
 have x5 : (n : Int) - 16 = (E1 : Int) := by omega
 have x6 : (A : Int) + 16 = (A16 : Int) := by omega
 have y1 : decide ((n : Int) < 1) = false := decide_eq_false (by omega)
 have y2 : ¬ (n : Int) < 1 := by omega
 have y3 : decide ((65536 : Int) < (n : Int)) = false := decide_eq_false (by omega)
 have y4 : ¬ (65536 : Int) < (n : Int) := by omega
 have y5 : decide ((n : Int) < 32) = false := decide_eq_false (by omega)
 have y6 : ¬ (n : Int) < 32 := by omega
 have FIT0 := Lib.hid (show (2 * p + 2) * (24 + 1) ≤ 140737488355328 by omega)
 have FIT1 := Lib.hid (show (2 * p + 1) * (24 + 1) ≤ 140737488355328 by omega)
 have FIT2 := Lib.hid (show (2 * p + 1 + 2) * (24 + 1) ≤ 140737488355328 by omega)
 have FIT3 := Lib.hid (show (2 * p + 2 + 2) * (24 + 1) ≤ 140737488355328 by omega)
 have HA := Lib.hid hA
 have HE0 := Lib.hid hE0
 have HE1 := Lib.hid hE1
 have HA16 := Lib.hid hA16
 have HD16 := Lib.hid hD16
 have HP := Lib.hid hp
 have HN := Lib.hid hn
 clear hA hE0 hE1 hA16 hD16 hn
 go_enter Tryz.func42, Tryz.ntmps42
 go_wp2_with fail
 go_loopw [6, 8] (fun o i wr => ∃ (k : Nat) (M : List Blk), k ≤ p ∧ i = .int .i64 k ∧ SlO M 85 3 o (2 * k) (headC k) ∧ Own w0 wr (M ++ [])) (fun _ i _ => p - (intOf i).toNat)
 case atStart => exact ⟨0, [], by omega, rfl, SlO.nil _ _, hm⟩
 case round =>
   obtain ⟨k, M, hk, rfl, hso, hm⟩ := hrel
   obtain ⟨po, co, rfl⟩ := hso.form
   obtain ⟨K, hK⟩ : ∃ K, K = 2 * k := ⟨_, rfl⟩
   have HK := Lib.hid hK
   rw [← hK] at hso ⊢
   have HSO := Lib.hid hso
   clear hso hK
   by_cases hlt : k < p
   · have h1 : decide ((k : Int) < (p : Int)) = true := decide_eq_true (by omega)
     have h2 : (k : Int) < (p : Int) := by omega
     obtain ⟨k32, hk32⟩ : ∃ K, K = 32 * k := ⟨_, rfl⟩
     obtain ⟨k48, hk48⟩ : ∃ K, K = 32 * k + 16 := ⟨_, rfl⟩
     have w1 : (32 : Int) * (k : Int) = (k32 : Int) := by omega
     have w2 : (k32 : Int) + 16 = (k48 : Int) := by omega
     have EH := Lib.hid (show headC (k + 1) = headC k ++ (prtV 4 k32 16 ++ prtV 5 k48 16) by rw [headC, hk32, hk48])
     have FIT := Lib.hid (show (K + 2) * (24 + 1) ≤ 140737488355328 by have := HK.out; have := HP.out; omega)
     clear hk32 hk48
     go_wp2_with (first | ((with_reducible apply wq_bs2g (prt_run2 _ _ _ _ _ _) hm); exact rfl; exact rfl; exact rfl; clear hm; intro gz w hm) | ((with_reducible show wpList _ _ _ (Oper.mk _ (Op.call _) _ _ _ _ :: _) _ _); refine wplO_app (M := M) (R := _) (ds := prtV 4 k32 16 ++ prtV 5 k48 16) (hm.perm (List.perm_middle.symm)) HSO.out rfl rfl rfl rfl Tryz.underlying78 rfl (cells_row (g := gz) (cs := prtV 4 k32 16 ++ prtV 5 k48 16) hm (by repeat (first | exact Has.hd | assumption | apply Has.tl | apply Has.app))) (by intro u hu; simp only [prtV, List.cons_append, List.nil_append, List.mem_cons, List.not_mem_nil, or_false] at hu; rcases hu with rfl | rfl | rfl | rfl | rfl | rfl <;> rfl) FIT.out ?_; clear hm; intro v1 w M1 hm hs1; obtain ⟨p_v1, c_v1, rfl⟩ := hs1.form; replace hm := hm.perm (List.perm_middle)))
     go_roundw
     case rel => exact ⟨k + 1, M1, hlt, by go_num, by rw [EH.out, show 2 * (k + 1) = K + 2 by have := HK.out; omega]; exact hs1, by simpa using hm.drop⟩
     case measure => simp [intOf] <;> omega
   · obtain rfl : k = p := by omega
     have h1 : decide ((k : Int) < (k : Int)) = false := decide_eq_false (by omega)
     have FIT0' := FIT0
     rw [← HK.out] at FIT0 FIT1 FIT2 FIT3
     rcases (show d = 0 ∨ (0 < d ∧ d < 16) ∨ 16 ≤ d by omega) with hd0 | ⟨hd0, hd1⟩ | hd0
     · have FIN := Lib.hid (show ∀ M v, SlO M 85 3 v (K + 2) (headC k ++ (prtV 8 E0 16 ++ prtV 9 E1 16)) → SlO M 85 3 v (2 * k + (midN d + 2)) (partC k d) from fun M v h => by
         rw [← HK.out, partC, midC, endC, midN, if_pos hd0, if_pos hd0, ← HE1.out, ← HE0.out]; exact h)
       have z1 : decide ((0 : Int) < (d : Int)) = false := decide_eq_false (by omega)
       have z2 : ¬ (0 : Int) < (d : Int) := by omega
       have z5 : decide ((d : Int) ≥ 16) = false := decide_eq_false (by omega)
       have z6 : decide ((16 : Int) ≤ (d : Int)) = false := decide_eq_false (by omega)
       have z7 : ¬ (16 : Int) ≤ (d : Int) := by omega
       go_wp2_with (first | ((with_reducible apply wq_bs2g (prt_run2 _ _ _ _ _ _) hm); exact rfl; exact rfl; exact rfl; clear hm; intro g8 w hm) | ((with_reducible show wpList _ _ _ (Oper.mk _ (Op.call _) _ _ _ _ :: _) _ _); refine wplO_app (M := M) (R := _) (ds := prtV 8 E0 16 ++ prtV 9 E1 16) (hm.perm (List.perm_middle.symm)) HSO.out rfl rfl rfl rfl Tryz.underlying78 rfl (cells_row (g := g8) (cs := prtV 8 E0 16 ++ prtV 9 E1 16) hm (by repeat (first | exact Has.hd | assumption | apply Has.tl | apply Has.app))) (by intro u hu; simp only [prtV, List.cons_append, List.nil_append, List.mem_cons, List.not_mem_nil, or_false] at hu; rcases hu with rfl | rfl | rfl | rfl | rfl | rfl <;> rfl) FIT0.out ?_; clear hm; intro v9 w M9 hm hs9; obtain ⟨p_v9, c_v9, rfl⟩ := hs9.form; replace hm := hm.perm (List.perm_middle)))
       go_ret2
       have e9 := FIN.out _ _ hs9
       rw [hd0] at e9
       exact ⟨_, rfl, M9, e9, by first | (simpa using hm.drop) | (simpa using hm.drop.drop)⟩
     · have FIN := Lib.hid (show ∀ M v, SlO M 85 3 v (K + 1 + 2) (headC k ++ prtV 6 A d ++ (prtV 8 E0 16 ++ prtV 9 E1 16)) → SlO M 85 3 v (2 * k + (midN d + 2)) (partC k d) from fun M v h => by
         rw [← HK.out, partC, midC, endC, midN, if_neg (by omega), if_pos hd1, if_neg (by omega), if_pos hd1, ← HE1.out, ← HE0.out, ← HA.out, ← List.append_assoc, ← Nat.add_assoc]; exact h)
       have z1 : decide ((0 : Int) < (d : Int)) = true := decide_eq_true (by omega)
       have z2 : (0 : Int) < (d : Int) := by omega
       have z3 : decide ((d : Int) < 16) = true := decide_eq_true (by omega)
       have z4 : (d : Int) < 16 := by omega
       have z5 : decide ((d : Int) ≥ 16) = false := decide_eq_false (by omega)
       have z6 : decide ((16 : Int) ≤ (d : Int)) = false := decide_eq_false (by omega)
       have z7 : ¬ (16 : Int) ≤ (d : Int) := by omega
       go_wp2_with (first | ((with_reducible apply wq_bs1g (prt_run1 _ _ _) hm); exact rfl; exact rfl; clear hm; intro g6 w hm) | ((with_reducible show wpList _ _ _ (Oper.mk _ (Op.call _) _ _ _ _ :: _) _ _); refine wplO_app (M := M) (R := _) (ds := prtV 6 A d) (hm.perm (List.perm_middle.symm)) HSO.out rfl rfl rfl rfl Tryz.underlying78 rfl (cells_row (g := g6) (cs := prtV 6 A d) hm (by repeat (first | exact Has.hd | assumption | apply Has.tl | apply Has.app))) (prtV_one _ _ _) FIT1.out ?_; clear hm; intro v6 w M6 hm hs6; obtain ⟨p_v6, c_v6, rfl⟩ := hs6.form; replace hm := hm.perm (List.perm_middle)) | ((with_reducible apply wq_bs2g (prt_run2 _ _ _ _ _ _) hm); exact rfl; exact rfl; exact rfl; clear hm; intro g8 w hm) | ((with_reducible show wpList _ _ _ (Oper.mk _ (Op.call _) _ _ _ _ :: _) _ _); refine wplO_app (M := M6) (R := _) (ds := prtV 8 E0 16 ++ prtV 9 E1 16) (hm.perm (perm_two _ _ _ _)) hs6 rfl rfl rfl rfl Tryz.underlying78 rfl (cells_row (g := g8) (cs := prtV 8 E0 16 ++ prtV 9 E1 16) hm (by repeat (first | exact Has.hd | assumption | apply Has.tl | apply Has.app))) (by intro u hu; simp only [prtV, List.cons_append, List.nil_append, List.mem_cons, List.not_mem_nil, or_false] at hu; rcases hu with rfl | rfl | rfl | rfl | rfl | rfl <;> rfl) FIT2.out ?_; clear hm; intro v9 w M9 hm hs9; obtain ⟨p_v9, c_v9, rfl⟩ := hs9.form; replace hm := hm.perm ((perm_two _ _ _ _).symm)))
       go_ret2
       have e9 := FIN.out _ _ hs9
       exact ⟨_, rfl, M9, e9, by first | (simpa using hm.drop) | (simpa using hm.drop.drop)⟩
     · have x7 : (d : Int) - 16 = (D16 : Int) := by have := HD16.out; omega
       have FIN := Lib.hid (show ∀ M v, SlO M 85 3 v (K + 2 + 2) (headC k ++ (prtV 6 A 16 ++ prtV 7 A16 D16) ++ (prtV 8 E0 16 ++ prtV 9 E1 16)) → SlO M 85 3 v (2 * k + (midN d + 2)) (partC k d) from fun M v h => by
         rw [← HK.out, partC, midC, endC, midN, if_neg (by omega), if_neg (by omega), if_neg (by omega), if_neg (by omega), ← HE1.out, ← HE0.out, ← HA16.out, ← HA.out, ← HD16.out, ← List.append_assoc, ← Nat.add_assoc]; exact h)
       have z1 : decide ((0 : Int) < (d : Int)) = true := decide_eq_true (by omega)
       have z2 : (0 : Int) < (d : Int) := by omega
       have z3 : decide ((d : Int) < 16) = false := decide_eq_false (by omega)
       have z4 : ¬ (d : Int) < 16 := by omega
       have z5 : decide ((d : Int) ≥ 16) = true := decide_eq_true (by omega)
       have z6 : decide ((16 : Int) ≤ (d : Int)) = true := decide_eq_true (by omega)
       have z7 : (16 : Int) ≤ (d : Int) := by omega
       go_wp2_with (first | ((with_reducible apply wq_bs2g (prt_run2 _ _ _ _ _ _) hm); exact rfl; exact rfl; exact rfl; clear hm; intro g8 w hm) | ((with_reducible show wpList _ _ _ (Oper.mk _ (Op.call _) _ _ _ _ :: _) _ _); refine wplO_app (M := M) (R := _) (ds := prtV 6 A 16 ++ prtV 7 A16 D16) (hm.perm (List.perm_middle.symm)) HSO.out rfl rfl rfl rfl Tryz.underlying78 rfl (cells_row (g := g8) (cs := prtV 6 A 16 ++ prtV 7 A16 D16) hm (by repeat (first | exact Has.hd | assumption | apply Has.tl | apply Has.app))) (by intro u hu; simp only [prtV, List.cons_append, List.nil_append, List.mem_cons, List.not_mem_nil, or_false] at hu; rcases hu with rfl | rfl | rfl | rfl | rfl | rfl <;> rfl) FIT0.out ?_; clear hm; intro v6 w M6 hm hs6; obtain ⟨p_v6, c_v6, rfl⟩ := hs6.form; replace hm := hm.perm (List.perm_middle)) | ((with_reducible show wpList _ _ _ (Oper.mk _ (Op.call _) _ _ _ _ :: _) _ _); refine wplO_app (M := M6) (R := _) (ds := prtV 8 E0 16 ++ prtV 9 E1 16) (hm.perm (perm_two _ _ _ _)) hs6 rfl rfl rfl rfl Tryz.underlying78 rfl (cells_row (g := g8) (cs := prtV 8 E0 16 ++ prtV 9 E1 16) hm (by repeat (first | exact Has.hd | assumption | apply Has.tl | apply Has.app))) (by intro u hu; simp only [prtV, List.cons_append, List.nil_append, List.mem_cons, List.not_mem_nil, or_false] at hu; rcases hu with rfl | rfl | rfl | rfl | rfl | rfl <;> rfl) FIT3.out ?_; clear hm; intro v9 w M9 hm hs9; obtain ⟨p_v9, c_v9, rfl⟩ := hs9.form; replace hm := hm.perm ((perm_two _ _ _ _).symm)))
       go_ret2
       have e9 := FIN.out _ _ hs9
       exact ⟨_, rfl, M9, e9, by first | (simpa using hm.drop) | (simpa using hm.drop.drop)⟩
end Go.Proofs.YtaijfigohlkccaaGreatDoor
namespace Go.Proofs.YtaijfigohlkccaaGreatDoor
open Go Go.RowKit
set_option maxRecDepth 100000
def blkC (G : Nat → List Byte) (k n : Nat) : List Byte := tab (16 * n) fun j => if j < 16 * k then nth (G (j / 16)) (j % 16) else 0#8
theorem blkC_length (G : Nat → List Byte) (k n : Nat) : (blkC G k n).length = 16 * n := tab_length
theorem blkC_zero (G : Nat → List Byte) (n : Nat) : blkC G 0 n = zer (16 * n) := nth_ext (by rw [blkC_length, zer_length]) fun i hi => by
 rw [blkC_length] at hi
 rw [blkC, nth_tab hi, zer, nth_tab hi, if_neg (by omega)]; rfl
theorem nth_app_l (a b : List Byte) (i : Nat) (h : i < a.length) : nth (a ++ b) i = nth a i := by
 simp only [nth, List.getD_eq_getElem?_getD]; rw [List.getElem?_append_left h]
theorem nth_app_r (a b : List Byte) (i : Nat) (h : a.length ≤ i) : nth (a ++ b) i = nth b (i - a.length) := by
 simp only [nth, List.getD_eq_getElem?_getD]; rw [List.getElem?_append_right h]
theorem blkC_set (G : Nat → List Byte) (k n t : Nat) (ht : t = 16 * k) (hk : k < n) (hG : (G k).length = 16) : (blkC G k n).take t ++ G k ++ (blkC G k n).drop (t + 16) = blkC G (k + 1) n := by
 subst ht
 have l0 := blkC_length G k n
 have l1 : ((blkC G k n).take (16 * k)).length = 16 * k := by rw [List.length_take]; omega
 refine nth_ext (by simp only [List.length_append, List.length_drop, l1, l0, hG, blkC_length]; omega) fun i hi => ?_
 simp only [List.length_append, List.length_drop, l1, l0, hG] at hi
 have e2 : nth (blkC G (k + 1) n) i = if i < 16 * (k + 1) then nth (G (i / 16)) (i % 16) else 0#8 := by rw [blkC, nth_tab (by omega)]
 have e1 : ∀ j, j < 16 * n → nth (blkC G k n) j = if j < 16 * k then nth (G (j / 16)) (j % 16) else 0#8 := fun j hj => by rw [blkC, nth_tab hj]
 rw [e2]
 by_cases h1 : i < 16 * k
 · rw [if_pos (by omega), List.append_assoc, nth_app_l _ _ _ (by omega), nth_take _ _ _ h1, e1 i (by omega), if_pos h1]
 · by_cases h2 : i < 16 * k + 16
   · rw [if_pos (by omega), nth_app_l _ _ _ (by rw [List.length_append, l1, hG]; omega), nth_app_r _ _ _ (by omega), l1, show i / 16 = k by omega, show i % 16 = i - 16 * k by omega]
   · rw [if_neg (by omega), nth_app_r _ _ _ (by rw [List.length_append, l1, hG]; omega), nth_drop, List.length_append, l1, hG, e1 _ (by omega), if_neg (by omega)]
theorem blkC_setv (G : Nat → List Byte) (k n t : Nat) (ht : t = 16 * k) (hk : k < n) (hG : (G k).length = 16) : ((blkC G k n).map v8).take t ++ (G k).map v8 ++ ((blkC G k n).map v8).drop (t + 16) = (blkC G (k + 1) n).map v8 := by
 rw [← blkC_set G k n t ht hk hG, List.map_append, List.map_append, List.map_take, List.map_drop]
theorem blkC_at (G : Nat → List Byte) (k n i t : Nat) (ht : t = 16 * i) (hi : i < k) (hk : k ≤ n) (hG : (G i).length = 16) : ((blkC G k n).drop t).take 16 = G i := by
 subst ht
 have l0 := blkC_length G k n
 refine nth_ext (by rw [List.length_take, List.length_drop, l0, hG]; omega) fun j hj => ?_
 rw [List.length_take, List.length_drop, l0] at hj
 rw [nth_take _ _ _ (by omega), nth_drop, blkC, nth_tab (by omega), if_pos (by omega), show (16 * i + j) / 16 = i by omega, show (16 * i + j) % 16 = j by omega]
theorem blkC_atv (G : Nat → List Byte) (k n i t : Nat) (ht : t = 16 * i) (hi : i < k) (hk : k ≤ n) (hG : (G i).length = 16) : (((blkC G k n).map v8).drop t).take 16 = (G i).map v8 := by
 rw [← blkC_at G k n i t ht hi hk hG, List.map_take, List.map_drop]
theorem info_blk : ∃ i, Tryz.prog.info? 36 = some i ∧ i.zero = some (A8 (zer 16)) ∧ i.size = 16 ∧ i.bytes = 16 := by
 obtain ⟨i, h1, h2, h3, h4⟩ := info_parts (show (Tryz.prog.info? 36).map (fun i => (i.zero, i.size, i.bytes)) = some (some (A8 (zer 16)), 16, 16) by kernel_rfl)
 exact ⟨i, h1, h2, h3, h4⟩
theorem zer_at (n i : Nat) (h : i < n) : ((zer (n := 8) n).map v8)[i]? = some (v8 0#8) := by
 rw [List.getElem?_map, List.getElem?_eq_getElem (by rw [zer_length]; exact h)]
 have : nth (zer (n := 8) n) i = 0#8 := by rw [zer, nth_tab h]; rfl
 rw [nth_get (by rw [zer_length]; exact h)] at this
 simp [this]
theorem made_blk (n : Nat) : madeCells ((zer (n := 8) 16).map v8).toArray (n * 16) = ((zer (n := 8) (16 * n)).map v8).toArray := by
 apply Array.ext
 · simp [madeCells, zer_length]; omega
 · intro i h1 h2
   have hn : i < 16 * n := by simpa [zer_length] using h2
   have e2 : (((zer (n := 8) (16 * n)).map v8).toArray)[i]? = some (v8 0#8) := by simpa using zer_at (16 * n) i hn
   have e1 : (((zer (n := 8) 16).map v8).toArray)[i % 16]? = some (v8 0#8) := by simpa using zer_at 16 (i % 16) (by omega)
   have l16 : ((zer (n := 8) 16).map v8).toArray.size = 16 := by simp [zer_length]
   rw [Array.getElem?_eq_getElem h2] at e2
   simp only [madeCells, Array.getElem_map, Array.getElem_range, l16]
   rw [Option.some.inj e2, getElem!_def, e1]
theorem wq_mkB {ops : Array Oper} {Q : Exit → Act → World → Prop} {rest : List Oper} {dst : Option Tmp} {ty : TypeId} {pos : String} {aft : Array Edge} {gd : Option (Nat × Bool)} {a : Act} {w0 w : World} {L : List Blk} {x : Operand} (n : Nat)
   (hm : Own w0 w L) (hgd : Region.wanted (Oper.mk dst (.makeSlice 81 x x) ty pos aft gd) (yielded ops a.tmps) = true) (hx : a.eval x = .int .i64 (n : Int)) (hn : n ≤ 1000)
   (hr : ∀ g w', Own w0 w' (⟨g, 36, (zer (16 * n)).map v8⟩ :: L) → wpList Tryz.prog ops Q rest (a.put dst (.slice (some ⟨g, 0, none⟩) n n)) w') : wpList Tryz.prog ops Q ((Oper.mk dst (.makeSlice 81 x x) ty pos aft gd) :: rest) a w :=
 wpList_want hgd fun K hK => by
   obtain ⟨i, hi, hz, hs, hb⟩ := info_blk
   have h := run_make (P := Tryz.prog) w 81 36 i (A8 (zer 16)) Tryz.underlying81 hi hz .i64 .i64 n n (by omega) (by omega) (by rw [hb]; omega) (by omega)
   rw [hs] at h
   simp only [Int.toNat_natCast, Value.cells, made_blk] at h
   unfold Oper.wp execOp
   simp only [hx, Sem.run_bind, h, Result.andThen_ok, Sem.run_pure]
   exact hK _ _ (hr _ _ (hm.alloc 36 ((zer (16 * n)).map v8)))
def Z2 (w0 : World) (R : List Blk) (T : TypeId) (n : Nat) (cs : List Value) : Option Value → Option Value → World → Prop
 | none, none, w => Own w0 w R
 | some v, none, w => ∃ g, v = .slice (some ⟨g, 0, none⟩) n n ∧ Own w0 w (⟨g, T, cs⟩ :: R)
 | none, some v, w => ∃ g, v = .slice (some ⟨g, 0, none⟩) n n ∧ Own w0 w (⟨g, T, cs⟩ :: R)
 | some u, some v, w => ∃ g k, u = .slice (some ⟨g, 0, none⟩) n n ∧ v = .slice (some ⟨k, 0, none⟩) n n ∧ Own w0 w (⟨k, T, cs⟩ :: ⟨g, T, cs⟩ :: R)
section
variable {w0 w w' : World} {R : List Blk} {T : TypeId} {n : Nat} {cs : List Value} {a b : Option Value}
theorem Z2.ext (h : Z2 w0 R T n cs a b w) (hx : Ext w w') : Z2 w0 R T n cs a b w' := by
 cases a <;> cases b
 · exact Own.ext h hx
 · obtain ⟨g, h1, h2⟩ := h; exact ⟨g, h1, h2.ext hx⟩
 · obtain ⟨g, h1, h2⟩ := h; exact ⟨g, h1, h2.ext hx⟩
 · obtain ⟨g, k, h1, h2, h3⟩ := h; exact ⟨g, k, h1, h2, h3.ext hx⟩
theorem Z2.low (h : Z2 w0 R T n cs a b w) : Own w0 w R := by
 cases a <;> cases b
 · exact h
 · obtain ⟨g, _, h2⟩ := h; exact h2.drop
 · obtain ⟨g, _, h2⟩ := h; exact h2.drop
 · obtain ⟨g, k, _, _, h3⟩ := h; exact h3.drop.drop
def JZ2 (w0 : World) (R : List Blk) (T : TypeId) (n : Nat) (cs : List Value) : Marks :=
 Marks.of (fun s w => ∃ a b, s = [a, b] ∧ Z2 w0 R T n cs a b w) fun _ _ _ ⟨a, b, e, h⟩ hx => ⟨a, b, e, h.ext hx⟩
theorem Z2.at0 (h : Z2 w0 R T n cs none b w) : ∃ L, Own w0 w L ∧ ∀ w' g, Own w0 w' (⟨g, T, cs⟩ :: L) → (JZ2 w0 R T n cs).J (([none, b] : List (Option Value)).set 0 (some (.slice (some ⟨g, 0, none⟩) n n))) w' := by
 cases b
 · exact ⟨R, h, fun w' g hm => ⟨some _, none, rfl, g, rfl, hm⟩⟩
 · obtain ⟨k, rfl, h2⟩ := h
   exact ⟨_, h2, fun w' g hm => ⟨some _, some _, rfl, g, k, rfl, rfl, hm.perm (List.Perm.swap _ _ _)⟩⟩
theorem Z2.at1 (h : Z2 w0 R T n cs a none w) : ∃ L, Own w0 w L ∧ ∀ w' g, Own w0 w' (⟨g, T, cs⟩ :: L) → (JZ2 w0 R T n cs).J (([a, none] : List (Option Value)).set 1 (some (.slice (some ⟨g, 0, none⟩) n n))) w' := by
 cases a
 · exact ⟨R, h, fun w' g hm => ⟨none, some _, rfl, g, rfl, hm⟩⟩
 · obtain ⟨k, rfl, h2⟩ := h
   exact ⟨_, h2, fun w' g hm => ⟨some _, some _, rfl, k, g, rfl, rfl, hm⟩⟩
end
theorem own_subq {w0 w : World} {L M : List Blk} (h : Own w0 w L) (hs : M.Sublist L) : Own w0 w M := ⟨h.1, h.2.1.sublist (hs.map _), fun b hb => h.2.2 b (hs.subset hb)⟩
theorem perm_midq (X Y R : List Blk) : (X ++ (Y ++ R)).Perm (Y ++ (X ++ R)) := by
 rw [← List.append_assoc, ← List.append_assoc]; exact List.perm_append_comm.append_right R
end Go.Proofs.YtaijfigohlkccaaGreatDoor
