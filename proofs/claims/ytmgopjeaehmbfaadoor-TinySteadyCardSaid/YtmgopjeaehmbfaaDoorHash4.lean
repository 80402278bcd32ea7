/-
  Layer 16: the hash of a row. Conditions: those written in each theorem.
-/
import Derived.Test.YtmgopjeaehmbfaaDoorHash3
namespace Go.Proofs.YtmgopjeaehmbfaaDoor
open Go Go.RowKit Go.Shelf
set_option maxRecDepth 100000
set_option linter.unusedVariables false
set_option linter.unusedSimpArgs false
attribute [local go_sem] Oper.semAt_some

/-- The hash of the strings of these numbers. -/
def foldH (F : Int → Int → List Byte → List Byte) (ls : List (List Byte)) (is : List Nat) : List Byte := is.foldl (fun (s : List Byte) (i : Nat) => bothL s (partG (F ((i : Int) + 3)) (ls.getD i []))) (zer 16)
theorem foldH_snoc (F : Int → Int → List Byte → List Byte) (ls : List (List Byte)) (is : List Nat) (i : Nat) : foldH F ls (is ++ [i]) = bothL (foldH F ls is) (partG (F ((i : Int) + 3)) (ls.getD i [])) := by
  rw [foldH, List.foldl_append]; rfl
theorem foldH_range (F : Int → Int → List Byte → List Byte) (ls : List (List Byte)) : ∀ n, foldH F ls (List.range n) = hashF F ls n
  | 0 => rfl
  | n + 1 => by rw [List.range_succ, foldH_snoc, foldH_range F ls n, hashF]
theorem foldH_length (F : Int → Int → List Byte → List Byte) (ls : List (List Byte)) (is : List Nat) : (foldH F ls is).length = 16 := by
  rcases List.eq_nil_or_concat is with rfl | ⟨l, i, rfl⟩
  · exact zer_length
  · rw [List.concat_eq_append, foldH_snoc]; exact bothL_length _ _

set_option maxRecDepth 100000 in
set_option maxHeartbeats 8000000 in
theorem hhash_any (kv : Value) (hkv : kv.cells = #[kv]) (hkv1 : kv.oneCell' = true) (F : Int → Int → List Byte → List Byte) (hF : ∀ j m x, (F j m x).length = 16) (ls : List (List Byte)) (q : Option Addr) (d : Nat) (w0 : World) (hl : RdR w0 q ls) (hld : ls.length ≤ d) (hlm : ls.length ≤ 70368744177000) (hls : ∀ i, (ls.getD i []).length ≤ 70368744177000)
    (CE : ∀ wx, Ext w0 wx → ∀ (j m : Int) (x : List Byte), x.length = 16 → j ≤ 9223372036854775807 → m ≤ 9223372036854775807 → Gives Tryd.prog 29 #[kv, .int .i64 j, .int .i64 m, A8 x] wx (A8 (F j m x))) :
    Gives Tryd.prog 27 #[kv, .slice q ls.length d] w0 (A8 (hashG F ls)) := by
  unfold Gives
  have hm := Own.start w0
  have HE := Lib.hid CE
  have HF := Lib.hid hF
  have HL := Lib.hid hl
  have HS := Lib.hid hls
  -- the row's cells
  obtain ⟨vs, hvs⟩ : ∃ vs : Nat → Value, ∀ i, i < ls.length → w0.cell? ((q.getD default).add i) = some (vs i) ∧ ∃ p c, vs i = .slice p (ls.getD i []).length c ∧ RdB w0 p (ls.getD i []) ∧ (ls.getD i []).length ≤ c := by
    refine ⟨fun i => (w0.cell? ((q.getD default).add i)).getD undef, fun i hi => ?_⟩
    obtain ⟨p, c, h1, h2, h3⟩ := hl.2 i hi
    dsimp only
    exact ⟨by rw [h1]; rfl, p, c, by rw [h1]; rfl, h2, h3.1⟩
  have HV := Lib.hid hvs
  have HQ := Lib.hid hl.1
  have lG := hashG_length F ls
  have eG : Hid (foldH F ls (List.range ls.length) = hashG F ls) := Lib.hid (foldH_range F ls ls.length)
  have lFo := Lib.hid (foldH_length F ls)
  clear CE hF hl hls hvs
  generalize hN : ls.length = N at *
  generalize hashG F ls = D at *
  refine (callsIn_wide (n := 4)).1 ?_
  refine callsIn_of_wp_marks Tryd.func27 rfl trivial ?_ rfl
  refine wpIn_wide.2 ?_
  simp only [Tryd.ntmps27, List.size_toArray, List.length_cons, List.length_nil, Nat.reduceAdd, Nat.reduceSub, Array.replicate_succ, Array.replicate_zero, List.push_toArray, List.append_toArray, List.nil_append, List.cons_append]
  go_wp2_with (first | ((with_reducible apply wq_box1 (v := kv) hm); exact rfl; exact rfl; exact hkv; clear hm; intro g1 w hm) | ((first | ((with_reducible show wpList _ _ _ (Oper.mk _ (Op.alloc _) _ _ _ _ :: _) _ _); first | ((with_reducible apply wq_new hm); (exact rfl); infer_instance) | fail)); clear hm; (first | (have hx_ := g1; clear hx_; (first | (have hx_ := g2; clear hx_; (first | (have hx_ := g3; clear hx_; (first | (have hx_ := g4; clear hx_; (first | (have hx_ := g5; clear hx_; (first | (have hx_ := g6; clear hx_; (first | (have hx_ := g7; clear hx_; (first | (have hx_ := g8; clear hx_; (first | (have hx_ := g9; clear hx_; intro g10) | intro g9)) | intro g8)) | intro g7)) | intro g6)) | intro g5)) | intro g4)) | intro g3)) | intro g2)) | intro g1); intro w hm) | fail)
  refine (numbered_any q N d _).mono ?_
  rintro e_ w ⟨gb, rfl, hgb_, hrb_, hx_⟩
  replace hm := hm.push hx_ hgb_ hrb_
  clear hgb_ hrb_ hx_
  go_wp2_with fail
  refine (wpIn_wide (n := 4)).1 ?_
  have hx0 := hm.x
  have hBs : _root_.Go.World.cell? w ⟨gb, 0, none⟩ = some (.slice q N d) := by rw [row_cell (hm.row .hd) 0]; rfl
  refine wpIn_rangeFunc_ownG (F := Fence.wide) rfl (by omega) (gf := 94) (lb := #[.pointer (some ⟨gb, 0, none⟩)]) rfl trivial (enters_of Tryd.func94 (by kernel_rfl) rfl)
    (numbered_stops 3 (by omega) gb w0 w N d q vs hlm hld HQ.out (fun j hj => (HV.out j hj).1) hx0 hBs) belowK_t (belowK_b hx0.size) (Below.refl _ _) (fun _ => rfl)
    (fun (pre : List {i : Nat // i < N}) W => Own w0 W [⟨gb, 40, [.slice q N d]⟩, ⟨g3, 27, (foldH F ls (pre.map fun x : {i : Nat // i < N} => x.1)).map v8⟩, ⟨g2, 27, (zer 16).map v8⟩, ⟨g1, 24, [kv]⟩])
    (fun _ _ _ => False)
    (fun s A B row hs hg hr => hs.kept hg (fun r e => ⟨Nat.le_trans hx0.size (hr r e).1, (hr r e).2⟩))
    (fun _ _ _ _ _ hs _ _ => hs)
    hm
    (fun x => { tmps := #[kv, .slice q N d, .pointer (some ⟨g1, 0, none⟩), undef, .pointer (some ⟨g2, 0, none⟩), .pointer (some ⟨g3, 0, none⟩), .int .i64 (3 + (x.1 : Int)), vs x.1, .slice q N d, .func (.func 94) #[] #[.pointer (some ⟨gb, 0, none⟩)], .int .i64 (3 + (x.1 : Int)), vs x.1, undef, undef, undef, undef, undef, undef, undef], defers := [] }) ?assign ?body ?done ?stop
  case assign =>
    intro l x W K hK
    gi_wp2
    exact hK
  case body =>
    rintro l pre ⟨i, hi⟩ W hI _
    obtain ⟨_, p, cp, hv, hrd, hcp⟩ := HV.out i hi
    have hm := hI
    clear hI
    dsimp only
    rw [hv]
    have hxW := hm.x
    have hlb := HS.out i
    have c1 := fun wx (hwx : Ext W wx) => hpart_any kv (F (3 + (i : Int))) (HF.out _) (3 + (i : Int)) (ls.getD i []) p cp wx (hrd.ext (hxW.trans hwx)) hcp hlb (fun wy hy m x hx1 hx2 => HE.out wy ((hxW.trans hwx).trans hy) _ m x hx1 (by omega) hx2)
    have lP := partG_length (F (3 + (i : Int))) (ls.getD i [])
    have c2 := fun wx => hplus_any (foldH F ls (pre.map fun x : {i : Nat // i < N} => x.1)) (partG (F (3 + (i : Int))) (ls.getD i [])) (lFo.out _) lP wx
    have e2 : bothL (foldH F ls (pre.map fun x : {i : Nat // i < N} => x.1)) (partG (F (3 + (i : Int))) (ls.getD i [])) = foldH F ls ((pre ++ [(⟨i, hi⟩ : {i : Nat // i < N})]).map fun x : {i : Nat // i < N} => x.1) := by rw [List.map_append, List.map_cons, List.map_nil, foldH_snoc, Int.add_comm]
    rw [e2] at c2
    have l1 := lFo.out (pre.map fun x : {i : Nat // i < N} => x.1)
    have l2 := lFo.out ((pre ++ [(⟨i, hi⟩ : {i : Nat // i < N})]).map fun x : {i : Nat // i < N} => x.1)
    have C1 := Lib.hid c1
    have C2 := Lib.hid c2
    clear c1 c2 e2 hv hrd hcp hlb
    generalize ls.getD i [] = b at *
    generalize hS2 : foldH F ls ((pre ++ [(⟨i, hi⟩ : {i : Nat // i < N})]).map fun x : {i : Nat // i < N} => x.1) = S2 at *
    generalize foldH F ls (pre.map fun x : {i : Nat // i < N} => x.1) = S1 at *
    generalize partG (F (3 + (i : Int))) b = Pt at *
    have HS2 := Lib.hid hS2
    clear hS2
    refine wpIn_block ?_
    refine region_in l _ (by rintro ⟨_, _, h⟩; exact h) 6 (fun w' => Ext _ w') 19 (by kernel_rfl) (by kernel_rfl) (by kernel_rfl) rfl (fun _ _ h k => h.trans k) (drew_ext _) ?_
    simp only [List.take_succ_cons, List.take_zero, List.drop_succ_cons, List.drop_zero, List.map_cons, List.map_nil]
    repeat (first
        | (apply walk_is rfl rfl rfl
           · (intro wx hwx; first | ((with_reducible show gives _ _ _ (Sem.run _ (execOp _ (Oper.mk _ (Op.load _ _) _ _ _ _)) _)); first | ((with_reducible apply gq_ldv (hm.ext hwx)); infer_instance; (exact rfl); (focus ((repeat (first | exact .hd | assumption | apply Has.tl)); done)); (focus (first | omega | (simp; omega) | (refine Nat.lt_of_lt_of_le (BitVec.isLt _) ?_; first | omega | (simp; done) | (simp; omega) | fail) | fail))) | ((with_reducible apply gq_ldW (hm.ext hwx)); infer_instance; (exact rfl); (focus ((repeat (first | exact .hd | assumption | apply Has.tl)); done)); (focus (first | rfl | omega | (simp; done) | (simp; omega) | fail))) | ((with_reducible apply gq_ld1 (hm.ext hwx)); infer_instance; (exact rfl); (focus ((repeat (first | exact .hd | assumption | apply Has.tl)); done)); (exact rfl)) | fail) | (go_simp; (try go_bits); first | exact gives_same | exact gives_skip | with_reducible exact gives_call (C1.out wx hwx) | with_reducible exact gives_call (C2.out wx)))
           · (simp only [Act.put, List.setIfInBounds_toArray, List.set_cons_succ, List.set_cons_zero]; rfl))
        | (apply walk_not rfl rfl rfl
           · (simp only [Act.put, List.setIfInBounds_toArray, List.set_cons_succ, List.set_cons_zero]; rfl)))
    intro wz hwz
    simp only [List.zip_cons_cons, List.zip_nil_right]
    repeat (first | rw [fin_is] | (rw [fin_cons]; intro _ _))
    rw [fin_nil]
    try (replace hm := hm.ext hwz)
    simp only [Act.put, List.setIfInBounds_toArray, List.set_cons_succ, List.set_cons_zero]
    go_wp2_with ((with_reducible apply wq_stWK hm); (exact rfl); infer_instance; (exact rfl); (exact rfl); (exact (by repeat (first | exact Swap.hd | assumption | apply Swap.tl))); (rw [List.length_map]; assumption); (rw [List.length_map]; assumption); (exact one_v8 _); clear hm; intro w hm hko hbe)
    exact ⟨(hwz.others.trans hko).from _, (Below.mono hwz hxW.size).trans (Below.mono hbe (Nat.le_refl _)), by dsimp only; rw [HS2.out]; exact hm⟩
  case done =>
    rintro D2 xs W hD hxs hI hK
    rw [hxs, eG.out] at hI
    have hm := hI
    clear hI
    go_wp2_with (first | ((with_reducible apply wq_stWK hm); (exact rfl); infer_instance; (exact rfl); (exact rfl); (exact (by repeat (first | exact Swap.hd | assumption | apply Swap.tl))); (rw [List.length_map]; assumption); (rw [List.length_map]; exact zer_length); (exact one_v8 _); clear hm; intro w hm hko _; replace hK := hko.same _ _ hK rfl; clear hko) | (first | ((with_reducible show wpList _ _ _ (Oper.mk _ (Op.load _ _) _ _ _ _ :: _) _ _); first | ((with_reducible apply wq_ldW hm); (exact rfl); infer_instance; (exact rfl); (focus ((repeat (first | exact .hd | assumption | apply Has.tl)); done)); (focus (first | rfl | omega | (simp; done) | (simp; omega) | fail))) | fail) | fail))
    exact retM_own hm rfl rfl (by infer_instance) (by repeat (first | exact Has.hd | assumption | apply Has.tl)) (by rw [List.length_map]; assumption) rfl (Nat.le_trans hx0.size hD) hK (fun w' h => ⟨rfl, h⟩)
  case stop =>
    rintro D2 c pre W _ _ h _
    exact h.elim

end Go.Proofs.YtmgopjeaehmbfaaDoor
