/-
  Layer 16: the statement on two short strings and two blocks. Conditions: the program's variables lie as its text lays them.
-/
import Derived.Test.YtmgopjeaehmbfaaDoorLawHash1
import Derived.Test.YtmgopjeaehmbfaaDoorHashq
import Derived.Test.YtmgopjeaehmbfaaDoorRegQ
namespace Go.Proofs.YtmgopjeaehmbfaaDoor
open Go Go.RowKit
set_option maxRecDepth 100000
set_option linter.unusedVariables false
set_option linter.unusedSimpArgs false

/-- The cells of a key, two blocks and two lengths. (Behind a name: not to be laid open by the walk.) -/
def lastC (p : Option Addr) (n c : Nat) (A B : List Byte) (N M : Nat) : List Value := [.slice p n c] ++ (A.map v8 ++ (B.map v8 ++ ([.int .u8 N] ++ [.int .u8 M])))
section
variable {p : Option Addr} {n c : Nat} {A B : List Byte} {N M : Nat}
theorem lastC_key : (lastC p n c A B N M)[0]? = some (.slice p n c) := rfl
theorem lastC_a (h : A.length = 16) : ((lastC p n c A B N M).drop 1).take 16 = A.map v8 := by
  show (A.map v8 ++ _).take 16 = _
  rw [List.take_append_of_le_length (by simp [h]), List.take_of_length_le (by simp [h])]
theorem lastC_b (h : A.length = 16) (hb : B.length = 16) : ((lastC p n c A B N M).drop 17).take 16 = B.map v8 := by
  have e : (lastC p n c A B N M).drop 17 = B.map v8 ++ ([.int .u8 N] ++ [.int .u8 M]) := by
    show (A.map v8 ++ _).drop 16 = _
    rw [List.drop_append_of_le_length (by simp [h]), List.drop_eq_nil_of_le (by simp [h]), List.nil_append]
  rw [e, List.take_append_of_le_length (by simp [hb]), List.take_of_length_le (by simp [hb])]
theorem lastC_n (h : A.length = 16) (hb : B.length = 16) : (lastC p n c A B N M)[33]? = some (.int .u8 N) := by
  unfold lastC
  rw [List.getElem?_append_right (by simp), List.getElem?_append_right (by simp [h]), List.getElem?_append_right (by simp [h, hb])]
  simp [h, hb]
theorem lastC_m (h : A.length = 16) (hb : B.length = 16) : (lastC p n c A B N M)[34]? = some (.int .u8 M) := by
  unfold lastC
  rw [List.getElem?_append_right (by simp), List.getElem?_append_right (by simp [h]), List.getElem?_append_right (by simp [h, hb])]
  simp [h, hb]
theorem lastC_length (h : A.length = 16) (hb : B.length = 16) : (lastC p n c A B N M).length = 35 := by simp [lastC, h, hb]
end

set_option maxHeartbeats 16000000 in
theorem last16_walk (key : List Byte) (p : Option Addr) (c : Nat) (A B : List Byte) (N M : Byte) (w0 : World) (hk : RdB w0 p key) (hkc : key.length ≤ c) (hkm : key.length ≤ maxLen) (hA : A.length = 16) (hB : B.length = 16) (hc : Coef w0 ∧ CoefB w0) :
    Calls Tryd.prog 6 #[.agg (lastC p key.length c A B N.toNat M.toNat).toArray] w0 fun e w' => e = .returned (.bool true) ∧ Ext w0 w' := by
  have hm := Own.start w0
  have HC := Lib.hid hc.1
  have HB := Lib.hid hc.2
  have HK := Lib.hid hk
  have hN : N.toNat < 256 := N.isLt
  have hM : M.toNat < 256 := M.isLt
  generalize N.toNat = n at *
  generalize M.toNat = m at *
  have F0 := Lib.hid (lastC_key (p := p) (n := key.length) (c := c) (A := A) (B := B) (N := n) (M := m))
  have F1 := Lib.hid (lastC_a (p := p) (n := key.length) (c := c) (B := B) (N := n) (M := m) hA)
  have F2 := Lib.hid (lastC_b (p := p) (n := key.length) (c := c) (N := n) (M := m) hA hB)
  have F3 := Lib.hid (lastC_n (p := p) (n := key.length) (c := c) (N := n) (M := m) hA hB)
  have F4 := Lib.hid (lastC_m (p := p) (n := key.length) (c := c) (N := n) (M := m) hA hB)
  have lS := lastC_length (p := p) (n := key.length) (c := c) (N := n) (M := m) hA hB
  have CR := Lib.hid fun w => right15_any key p c w
  have KO := Lib.hid fun (h : rightL key = true) (w : World) (h1 : RdB w p key) (h2 : Coef w) (h3 : CoefB w) => keys16_ok key p c w h hkc h1 h2 h3
  have AW := Lib.hid fun (w : World) (h : Ext w0 w) => awake16 w ⟨hc.1.ext h, hc.2.ext h⟩
  have OKK := Lib.hid (keyOf_ok key)
  generalize lastC p key.length c A B n m = S at *
  generalize keyOf key = K at *
  have HAL := Lib.hid hA
  have HBL := Lib.hid hB
  have lz : (zer (n := 8) 16).length = 16 := zer_length
  clear hc hk
  by_cases hR : rightL key = true
  · rw [hR] at CR
    have PK := Lib.hid fun (wx : World) (g : Nat) (h : KeyR wx g K) (l : List Byte) (q' : Option Addr) (d' : Nat) (h' : RdB wx q' l) (h1 : l.length ≤ d') (h2 : l.length ≤ 70368744177000) => hpart_any (.pointer (some ⟨g, 0, none⟩)) (eZ K 3) (eZ_length K 3) 3 l q' d' wx h' h1 h2 (fun wy hy m x h1 h2 => (h.ext hy).e _ m x h1 (by omega) h2)
    obtain ⟨r, hr⟩ : ∃ r : Nat, n % 16 = r := ⟨_, rfl⟩
    obtain ⟨s, hs⟩ : ∃ s : Nat, m % 16 = s := ⟨_, rfl⟩
    have x1 : (n : Int) % 16 = (r : Int) := by omega
    have x2 : (n : Int).tmod 16 = (r : Int) := by rw [Int.tmod_eq_emod_of_nonneg (by omega)]; exact x1
    have x3 : (m : Int) % 16 = (s : Int) := by omega
    have x4 : (m : Int).tmod 16 = (s : Int) := by rw [Int.tmod_eq_emod_of_nonneg (by omega)]; exact x3
    have r1 : (r : Int) ≤ 16 := by omega
    have s1 : (s : Int) ≤ 16 := by omega
    have r2 : r ≤ 16 := by omega
    have s2 : s ≤ 16 := by omega
    have lX : (A.take r).length = r := by rw [List.length_take]; omega
    have lY : (B.take s).length = s := by rw [List.length_take]; omega
    have E1 := last_short K (A.take r) (B.take s) (by omega) (by omega)
    have E2 := last_whole K A B hA hB
    have PX := Lib.hid fun (wx : World) (g : Nat) (h : KeyR wx g K) (q' : Option Addr) (d' : Nat) (h' : RdB wx q' (A.take r)) (h1 : r ≤ d') => PK.out wx g h (A.take r) q' d' h' (by omega) (by omega)
    have PY := Lib.hid fun (wx : World) (g : Nat) (h : KeyR wx g K) (q' : Option Addr) (d' : Nat) (h' : RdB wx q' (B.take s)) (h1 : s ≤ d') => PK.out wx g h (B.take s) q' d' h' (by omega) (by omega)
    have PA := Lib.hid fun (wx : World) (g : Nat) (h : KeyR wx g K) (q' : Option Addr) (h' : RdB wx q' A) => PK.out wx g h A q' 16 h' (by omega) (by omega)
    have PB := Lib.hid fun (wx : World) (g : Nat) (h : KeyR wx g K) (q' : Option Addr) (h' : RdB wx q' B) => PK.out wx g h B q' 16 h' (by omega) (by omega)
    rw [lX] at PX
    rw [lY] at PY
    rw [hA] at PA
    rw [hB] at PB
    have l1 := partG_length (eZ K 3) (A.take r)
    have l2 := partG_length (eZ K 3) (B.take s)
    have l3 := partG_length (eZ K 3) A
    have l4 := partG_length (eZ K 3) B
    have SX := Lib.hid fun (wx : World) (q' : Option Addr) (h : RdB wx q' (A.take r)) => show (convert 22 9 (.slice q' r 16)).run Tryd.prog wx = .ok (.string (bstr (A.take r))) wx from by
      have := conv_str q' (A.take r) 16 wx h; rwa [lX] at this
    have SY := Lib.hid fun (wx : World) (q' : Option Addr) (h : RdB wx q' (B.take s)) => show (convert 22 9 (.slice q' s 16)).run Tryd.prog wx = .ok (.string (bstr (B.take s))) wx from by
      have := conv_str q' (B.take s) 16 wx h; rwa [lY] at this
    have TX := Lib.hid fun (wx : World) (q' : Option Addr) (h : RdB wx q' A) => h.take r
    have TY := Lib.hid fun (wx : World) (q' : Option Addr) (h : RdB wx q' B) => h.take s
    generalize partG (eZ K 3) (A.take r) = D1 at *
    generalize partG (eZ K 3) (B.take s) = D2 at *
    generalize partG (eZ K 3) A = D3 at *
    generalize partG (eZ K 3) B = D4 at *
    generalize A.take r = X at *
    generalize B.take s = Y at *
    obtain ⟨b1, q1⟩ : ∃ b, (X == Y) = b := ⟨_, rfl⟩
    obtain ⟨b2, q2⟩ : ∃ b, (A == B) = b := ⟨_, rfl⟩
    rw [q1] at E1
    rw [q2] at E2
    clear hr hs PK lX lY hN hM
    go_enter Tryd.func6, Tryd.ntmps6
    go_wp2_with (first | ((first | ((with_reducible show wpList _ _ _ (Oper.mk _ (Op.box _ _) _ _ _ _ :: _) _ _); first | ((with_reducible apply wq_boxN hm); (exact rfl); (exact rfl)) | fail)); clear hm; (first | (have hx_ := g1; clear hx_; (first | (have hx_ := g2; clear hx_; (first | (have hx_ := g3; clear hx_; (first | (have hx_ := g4; clear hx_; (first | (have hx_ := g5; clear hx_; (first | (have hx_ := g6; clear hx_; (first | (have hx_ := g7; clear hx_; (first | (have hx_ := g8; clear hx_; (first | (have hx_ := g9; clear hx_; intro g10) | intro g9)) | intro g8)) | intro g7)) | intro g6)) | intro g5)) | intro g4)) | intro g3)) | intro g2)) | intro g1); intro w hm) | fail)
    refine pregion 17 (K2 _ _ 27 ((zer 16).map v8) (A.map v8) (B.map v8)) [10, 11, 13, 14] 67 (by kernel_rfl) (by kernel_rfl) rfl (⟨none, none, none, none, rfl, TwoV.start (hm.ext (drew_ext _))⟩) ?_
    simp only [List.take_succ_cons, List.take_zero, List.drop_succ_cons, List.drop_zero, List.map_cons, List.map_nil]
    repeat (first
        | (apply pwalk_is rfl rfl rfl rfl; (intro vs_ wx hJ_; obtain ⟨a_, b_, c_, d_, rfl, hT_⟩ := hJ_; have hm := hT_.low; (with_reducible apply gq_ld1 hm); infer_instance; (exact rfl); (focus ((repeat (first | exact .hd | assumption | apply Has.tl)); done)); (exact F0.out)); (simp only [Act.put, List.setIfInBounds_toArray, List.set_cons_succ, List.set_cons_zero]; rfl))
        | (apply pwalk_is rfl rfl rfl rfl; (intro vs_ wx hJ_; obtain ⟨a_, b_, c_, d_, rfl, hT_⟩ := hJ_; have hm := hT_.low; (with_reducible apply gq_ld1 hm); infer_instance; (exact rfl); (focus ((repeat (first | exact .hd | assumption | apply Has.tl)); done)); (exact F3.out)); (simp only [Act.put, List.setIfInBounds_toArray, List.set_cons_succ, List.set_cons_zero]; rfl))
        | (apply pwalk_is rfl rfl rfl rfl; (intro vs_ wx hJ_; obtain ⟨a_, b_, c_, d_, rfl, hT_⟩ := hJ_; have hm := hT_.low; (with_reducible apply gq_ld1 hm); infer_instance; (exact rfl); (focus ((repeat (first | exact .hd | assumption | apply Has.tl)); done)); (exact F4.out)); (simp only [Act.put, List.setIfInBounds_toArray, List.set_cons_succ, List.set_cons_zero]; rfl))
        | (apply pwalk_is rfl rfl rfl rfl; (intro vs_ wx hJ_; obtain ⟨a_, b_, c_, d_, rfl, hT_⟩ := hJ_; have hm := hT_.low; (with_reducible apply gq_ldN hm); infer_instance; (exact rfl); (focus ((repeat (first | exact .hd | assumption | apply Has.tl)); done)); (exact F1.out); (exact ((List.length_map ..).trans HAL.out))); (simp only [Act.put, List.setIfInBounds_toArray, List.set_cons_succ, List.set_cons_zero]; rfl))
        | (apply pwalk_is rfl rfl rfl rfl; (intro vs_ wx hJ_; obtain ⟨a_, b_, c_, d_, rfl, hT_⟩ := hJ_; have hm := hT_.low; (with_reducible apply gq_ldN hm); infer_instance; (exact rfl); (focus ((repeat (first | exact .hd | assumption | apply Has.tl)); done)); (exact F2.out); (exact ((List.length_map ..).trans HBL.out))); (simp only [Act.put, List.setIfInBounds_toArray, List.set_cons_succ, List.set_cons_zero]; rfl))
        | (apply pwalk_mark (T := []) 0 [] rfl rfl rfl rfl rfl; (intro vs_ wx hJ_ hn_ hD_; simp only [pwithS]; obtain ⟨a_, b_, c_, d_, rfl, hT_⟩ := hJ_; obtain rfl : a_ = none := (by simpa using hn_); have hm := hT_.oa; refine ⟨rfl, ?_⟩; (with_reducible apply wq_new hm); (exact rfl); infer_instance; clear hm; intro g_ w_ hm; exact mark_end rfl (hT_.j0 hm)))
        | (apply pwalk_mark (T := []) 1 [] rfl rfl rfl rfl rfl; (intro vs_ wx hJ_ hn_ hD_; simp only [pwithS]; obtain ⟨a_, b_, c_, d_, rfl, hT_⟩ := hJ_; obtain rfl : b_ = none := (by simpa using hn_); have hm := hT_.ob; refine ⟨rfl, ?_⟩; (with_reducible apply wq_new hm); (exact rfl); infer_instance; clear hm; intro g_ w_ hm; exact mark_end rfl (hT_.j1 hm)))
        | (apply pwalk_mark (T := [(4, PMk 0)]) 2 [] rfl rfl rfl rfl rfl; (intro vs_ wx hJ_ hn_ hD_; simp only [pwithS]; obtain ⟨a_, b_, c_, d_, rfl, hT_⟩ := hJ_; obtain rfl : c_ = none := (by simpa using hn_); intro x_ hx_; obtain rfl : a_ = some x_ := (by simpa [PMk] using hx_); obtain ⟨g_, rfl, hm⟩ := hT_.sa; refine ⟨rfl, ?_⟩; (with_reducible apply wq_stW hm); (exact rfl); infer_instance; (exact rfl); (exact rfl); (focus ((repeat (first | exact .hd | assumption | apply Swap.tl)); done)); (focus (first | rfl | omega | (simp; done) | (simp; omega) | fail)); (focus (first | rfl | omega | (simp; done) | (simp; omega) | fail)); (focus (first | exact one_map _ | (simp [one8, one32, one64]; done) | fail)); clear hm; intro w_ hm; exact mark_end rfl (fun u_ => hT_.j2 hm)))
        | (apply pwalk_mark (T := [(5, PMk 1)]) 3 [] rfl rfl rfl rfl rfl; (intro vs_ wx hJ_ hn_ hD_; simp only [pwithS]; obtain ⟨a_, b_, c_, d_, rfl, hT_⟩ := hJ_; obtain rfl : d_ = none := (by simpa using hn_); intro x_ hx_; obtain rfl : b_ = some x_ := (by simpa [PMk] using hx_); obtain ⟨g_, rfl, hm⟩ := hT_.sb; refine ⟨rfl, ?_⟩; (with_reducible apply wq_stW hm); (exact rfl); infer_instance; (exact rfl); (exact rfl); (focus ((repeat (first | exact .hd | assumption | apply Swap.tl)); done)); (focus (first | rfl | omega | (simp; done) | (simp; omega) | fail)); (focus (first | rfl | omega | (simp; done) | (simp; omega) | fail)); (focus (first | exact one_map _ | (simp [one8, one32, one64]; done) | fail)); clear hm; intro w_ hm; exact mark_end rfl (fun u_ => hT_.j3 hm)))
        | (apply pwalk_is rfl rfl rfl rfl
           · (intro vs_ wx hJ_; obtain ⟨a_, b_, c_, d_, rfl, hT_⟩ := hJ_; have hm := hT_.low; first | ((with_reducible show gives _ _ _ (Sem.run _ (execOp _ (Oper.mk _ (Op.load _ _) _ _ _ _)) _)); first | ((with_reducible apply gq_ldv hm); infer_instance; (exact rfl); (focus ((repeat (first | exact .hd | assumption | apply Has.tl)); done)); (focus (first | omega | (simp; omega) | (refine Nat.lt_of_lt_of_le (BitVec.isLt _) ?_; first | omega | (simp; done) | (simp; omega) | fail) | fail))) | ((with_reducible apply gq_ldW hm); infer_instance; (exact rfl); (focus ((repeat (first | exact .hd | assumption | apply Has.tl)); done)); (focus (first | rfl | omega | (simp; done) | (simp; omega) | fail))) | ((with_reducible apply gq_ld1 hm); infer_instance; (exact rfl); (focus ((repeat (first | exact .hd | assumption | apply Has.tl)); done)); (exact rfl)) | fail) | (go_simp; (try go_bits); first | exact gives_same | exact gives_skip))
           · (simp only [Act.put, List.setIfInBounds_toArray, List.set_cons_succ, List.set_cons_zero]; rfl)))
    intro vs_ wz hJ_ hl_ hall_
    simp only [List.zip_cons_cons, List.zip_nil_right]
    repeat rw [pfin_is]
    rw [pfin_cons]; intro x4 hx4
    repeat rw [pfin_is]
    rw [pfin_cons]; intro x5 hx5
    repeat rw [pfin_is]
    rw [pfin_cons]; intro y4 hy4
    repeat rw [pfin_is]
    rw [pfin_cons]; intro y5 hy5
    repeat rw [pfin_is]
    rw [pfin_nil]
    simp only [Act.put, List.setIfInBounds_toArray, List.set_cons_succ, List.set_cons_zero]
    obtain ⟨a_, b_, c_, d_, rfl, hT_⟩ := hJ_
    obtain ⟨p_, q_, r_, s_, rfl, rfl, rfl, rfl⟩ := some4 hall_
    clear hm
    obtain ⟨g4_, g5_, rfl, rfl, hm⟩ := hT_.fin
    obtain rfl := pmk0 hx4
    obtain rfl := pmk1 hx5
    clear hT_ hl_ hall_ hx4 hx5 hy4 hy5 y4 y5
    go_wp2_with (first | (go_at_call 19; (with_reducible refine (CR.out _).mono ?_); rintro e_ w_ ⟨rfl, rfl⟩) | fail)
    refine (KO.out hR _ (HK.out.ext hm.x) (HC.out.ext hm.x) (HB.out.ext hm.x)).mono ?_
    rintro e w ⟨g, gt, gb, rfl, hg_, hgt_, hne_, hrk_, hrt_, hx_⟩
    replace hm := hm.push2 hx_ hgt_ hrt_ hg_ hrk_ hne_
    clear hx_ hg_ hgt_ hne_ hrk_ hrt_
    go_wp2_with fail
    refine region_at 8 (fun w' => Ext _ w') 67 (by kernel_rfl) (by kernel_rfl) rfl (fun _ _ h k => h.trans k) (drew_ext _) ?_
    simp only [List.take_succ_cons, List.take_zero, List.drop_succ_cons, List.drop_zero, List.map_cons, List.map_nil]
    repeat (first
        | (apply walk_is rfl rfl rfl
           · (intro wx hwx; first | ((with_reducible show gives _ _ _ (Sem.run _ (execOp _ (Oper.mk _ (Op.load _ _) _ _ _ _)) _)); first | ((with_reducible apply gq_ldv (hm.ext hwx)); infer_instance; (exact rfl); (focus ((repeat (first | exact .hd | assumption | apply Has.tl)); done)); (focus (first | omega | (simp; omega) | (refine Nat.lt_of_lt_of_le (BitVec.isLt _) ?_; first | omega | (simp; done) | (simp; omega) | fail) | fail))) | ((with_reducible apply gq_ldW (hm.ext hwx)); infer_instance; (exact rfl); (focus ((repeat (first | exact .hd | assumption | apply Has.tl)); done)); (focus (first | rfl | omega | (simp; done) | (simp; omega) | fail))) | ((with_reducible apply gq_ld1 (hm.ext hwx)); infer_instance; (exact rfl); (focus ((repeat (first | exact .hd | assumption | apply Has.tl)); done)); (exact rfl)) | fail) | (go_simp; (try go_bits); first | exact gives_same | exact gives_skip))
           · (simp only [Act.put, List.setIfInBounds_toArray, List.set_cons_succ, List.set_cons_zero]; rfl))
        | (apply walk_not rfl rfl rfl
           · (simp only [Act.put, List.setIfInBounds_toArray, List.set_cons_succ, List.set_cons_zero]; rfl)))
    intro wz hwz
    simp only [List.zip_cons_cons, List.zip_nil_right]
    repeat (first | rw [fin_is] | (rw [fin_cons]; intro _ _))
    rw [fin_nil]
    try (replace hm := hm.ext hwz)
    simp only [Act.put, List.setIfInBounds_toArray, List.set_cons_succ, List.set_cons_zero]
    go_wp2_with fail
    have kr := fun wx (hwx : Ext _ wx) => KeyR.own (g := g) (gt := gt) (gb := gb) OKK.out (hm.ext hwx) (by repeat (first | exact Has.hd | assumption | apply Has.tl)) (by repeat (first | exact Has.hd | assumption | apply Has.tl))
    have ra := fun wx (hwx : Ext _ wx) => (hm.ext hwx).rdB (g := g4_) (l := A) (by repeat (first | exact Has.hd | assumption | apply Has.tl))
    have rb := fun wx (hwx : Ext _ wx) => (hm.ext hwx).rdB (g := g5_) (l := B) (by repeat (first | exact Has.hd | assumption | apply Has.tl))
    have hx0 := hm.x
    have c1 := fun wx hwx => PX.out wx g (kr wx hwx) (some ⟨g4_, 0, none⟩) 16 (TX.out wx _ (ra wx hwx)) r2
    have c2 := fun wx hwx => PY.out wx g (kr wx hwx) (some ⟨g5_, 0, none⟩) 16 (TY.out wx _ (rb wx hwx)) s2
    have c3 := fun wx hwx => PA.out wx g (kr wx hwx) (some ⟨g4_, 0, none⟩) (ra wx hwx)
    have c4 := fun wx hwx => PB.out wx g (kr wx hwx) (some ⟨g5_, 0, none⟩) (rb wx hwx)
    have s1 := fun wx hwx => SX.out wx (some ⟨g4_, 0, none⟩) (TX.out wx _ (ra wx hwx))
    have s2 := fun wx hwx => SY.out wx (some ⟨g5_, 0, none⟩) (TY.out wx _ (rb wx hwx))
    refine region_at 29 (fun w' => Ext _ w') 67 (by kernel_rfl) (by kernel_rfl) rfl (fun _ _ h k => h.trans k) (drew_ext _) ?_
    simp only [List.take_succ_cons, List.take_zero, List.drop_succ_cons, List.drop_zero, List.map_cons, List.map_nil]
    repeat (first
        | (apply walk_is rfl rfl rfl
           · (intro wx hwx; first | ((with_reducible show gives _ _ _ (Sem.run _ (execOp _ (Oper.mk _ (Op.load _ _) _ _ _ _)) _)); first | ((with_reducible apply gq_ldv (hm.ext hwx)); infer_instance; (exact rfl); (focus ((repeat (first | exact .hd | assumption | apply Has.tl)); done)); (focus (first | omega | (simp; omega) | (refine Nat.lt_of_lt_of_le (BitVec.isLt _) ?_; first | omega | (simp; done) | (simp; omega) | fail) | fail))) | ((with_reducible apply gq_ldW (hm.ext hwx)); infer_instance; (exact rfl); (focus ((repeat (first | exact .hd | assumption | apply Has.tl)); done)); (focus (first | rfl | omega | (simp; done) | (simp; omega) | fail))) | ((with_reducible apply gq_ld1 (hm.ext hwx)); infer_instance; (exact rfl); (focus ((repeat (first | exact .hd | assumption | apply Has.tl)); done)); (exact rfl)) | fail) | (go_simp; (try go_bits); first | exact gives_same | exact gives_skip | with_reducible exact gives_call (c1 wx hwx) | with_reducible exact gives_call (c2 wx hwx) | with_reducible exact gives_call (c3 wx hwx) | with_reducible exact gives_call (c4 wx hwx) | with_reducible exact gives_call (AW.out wx (hx0.trans hwx))))
           · (simp only [Act.put, List.setIfInBounds_toArray, List.set_cons_succ, List.set_cons_zero]; rfl))
        | (apply walk_not rfl rfl rfl
           · (simp only [Act.put, List.setIfInBounds_toArray, List.set_cons_succ, List.set_cons_zero]; rfl)))
    intro wz hwz
    simp only [List.zip_cons_cons, List.zip_nil_right]
    repeat (first | rw [fin_is] | (rw [fin_cons]; intro _ _))
    rw [fin_nil]
    try (replace hm := hm.ext hwz)
    simp only [Act.put, List.setIfInBounds_toArray, List.set_cons_succ, List.set_cons_zero]
    go_wp2_with fail
    go_ret
    exact ⟨rfl, hm.x⟩
  · have e : rightL key = false := by cases h : rightL key <;> simp_all
    rw [e] at CR
    go_enter Tryd.func6, Tryd.ntmps6
    go_wp2_with (first | ((first | ((with_reducible show wpList _ _ _ (Oper.mk _ (Op.box _ _) _ _ _ _ :: _) _ _); first | ((with_reducible apply wq_boxN hm); (exact rfl); (exact rfl)) | fail)); clear hm; (first | (have hx_ := g1; clear hx_; (first | (have hx_ := g2; clear hx_; (first | (have hx_ := g3; clear hx_; (first | (have hx_ := g4; clear hx_; (first | (have hx_ := g5; clear hx_; (first | (have hx_ := g6; clear hx_; (first | (have hx_ := g7; clear hx_; (first | (have hx_ := g8; clear hx_; (first | (have hx_ := g9; clear hx_; intro g10) | intro g9)) | intro g8)) | intro g7)) | intro g6)) | intro g5)) | intro g4)) | intro g3)) | intro g2)) | intro g1); intro w hm) | fail)
    refine pregion 17 (K2 _ _ 27 ((zer 16).map v8) (A.map v8) (B.map v8)) [10, 11, 13, 14] 67 (by kernel_rfl) (by kernel_rfl) rfl (⟨none, none, none, none, rfl, TwoV.start (hm.ext (drew_ext _))⟩) ?_
    simp only [List.take_succ_cons, List.take_zero, List.drop_succ_cons, List.drop_zero, List.map_cons, List.map_nil]
    repeat (first
        | (apply pwalk_is rfl rfl rfl rfl; (intro vs_ wx hJ_; obtain ⟨a_, b_, c_, d_, rfl, hT_⟩ := hJ_; have hm := hT_.low; (with_reducible apply gq_ld1 hm); infer_instance; (exact rfl); (focus ((repeat (first | exact .hd | assumption | apply Has.tl)); done)); (exact F0.out)); (simp only [Act.put, List.setIfInBounds_toArray, List.set_cons_succ, List.set_cons_zero]; rfl))
        | (apply pwalk_is rfl rfl rfl rfl; (intro vs_ wx hJ_; obtain ⟨a_, b_, c_, d_, rfl, hT_⟩ := hJ_; have hm := hT_.low; (with_reducible apply gq_ld1 hm); infer_instance; (exact rfl); (focus ((repeat (first | exact .hd | assumption | apply Has.tl)); done)); (exact F3.out)); (simp only [Act.put, List.setIfInBounds_toArray, List.set_cons_succ, List.set_cons_zero]; rfl))
        | (apply pwalk_is rfl rfl rfl rfl; (intro vs_ wx hJ_; obtain ⟨a_, b_, c_, d_, rfl, hT_⟩ := hJ_; have hm := hT_.low; (with_reducible apply gq_ld1 hm); infer_instance; (exact rfl); (focus ((repeat (first | exact .hd | assumption | apply Has.tl)); done)); (exact F4.out)); (simp only [Act.put, List.setIfInBounds_toArray, List.set_cons_succ, List.set_cons_zero]; rfl))
        | (apply pwalk_is rfl rfl rfl rfl; (intro vs_ wx hJ_; obtain ⟨a_, b_, c_, d_, rfl, hT_⟩ := hJ_; have hm := hT_.low; (with_reducible apply gq_ldN hm); infer_instance; (exact rfl); (focus ((repeat (first | exact .hd | assumption | apply Has.tl)); done)); (exact F1.out); (exact ((List.length_map ..).trans HAL.out))); (simp only [Act.put, List.setIfInBounds_toArray, List.set_cons_succ, List.set_cons_zero]; rfl))
        | (apply pwalk_is rfl rfl rfl rfl; (intro vs_ wx hJ_; obtain ⟨a_, b_, c_, d_, rfl, hT_⟩ := hJ_; have hm := hT_.low; (with_reducible apply gq_ldN hm); infer_instance; (exact rfl); (focus ((repeat (first | exact .hd | assumption | apply Has.tl)); done)); (exact F2.out); (exact ((List.length_map ..).trans HBL.out))); (simp only [Act.put, List.setIfInBounds_toArray, List.set_cons_succ, List.set_cons_zero]; rfl))
        | (apply pwalk_mark (T := []) 0 [] rfl rfl rfl rfl rfl; (intro vs_ wx hJ_ hn_ hD_; simp only [pwithS]; obtain ⟨a_, b_, c_, d_, rfl, hT_⟩ := hJ_; obtain rfl : a_ = none := (by simpa using hn_); have hm := hT_.oa; refine ⟨rfl, ?_⟩; (with_reducible apply wq_new hm); (exact rfl); infer_instance; clear hm; intro g_ w_ hm; exact mark_end rfl (hT_.j0 hm)))
        | (apply pwalk_mark (T := []) 1 [] rfl rfl rfl rfl rfl; (intro vs_ wx hJ_ hn_ hD_; simp only [pwithS]; obtain ⟨a_, b_, c_, d_, rfl, hT_⟩ := hJ_; obtain rfl : b_ = none := (by simpa using hn_); have hm := hT_.ob; refine ⟨rfl, ?_⟩; (with_reducible apply wq_new hm); (exact rfl); infer_instance; clear hm; intro g_ w_ hm; exact mark_end rfl (hT_.j1 hm)))
        | (apply pwalk_mark (T := [(4, PMk 0)]) 2 [] rfl rfl rfl rfl rfl; (intro vs_ wx hJ_ hn_ hD_; simp only [pwithS]; obtain ⟨a_, b_, c_, d_, rfl, hT_⟩ := hJ_; obtain rfl : c_ = none := (by simpa using hn_); intro x_ hx_; obtain rfl : a_ = some x_ := (by simpa [PMk] using hx_); obtain ⟨g_, rfl, hm⟩ := hT_.sa; refine ⟨rfl, ?_⟩; (with_reducible apply wq_stW hm); (exact rfl); infer_instance; (exact rfl); (exact rfl); (focus ((repeat (first | exact .hd | assumption | apply Swap.tl)); done)); (focus (first | rfl | omega | (simp; done) | (simp; omega) | fail)); (focus (first | rfl | omega | (simp; done) | (simp; omega) | fail)); (focus (first | exact one_map _ | (simp [one8, one32, one64]; done) | fail)); clear hm; intro w_ hm; exact mark_end rfl (fun u_ => hT_.j2 hm)))
        | (apply pwalk_mark (T := [(5, PMk 1)]) 3 [] rfl rfl rfl rfl rfl; (intro vs_ wx hJ_ hn_ hD_; simp only [pwithS]; obtain ⟨a_, b_, c_, d_, rfl, hT_⟩ := hJ_; obtain rfl : d_ = none := (by simpa using hn_); intro x_ hx_; obtain rfl : b_ = some x_ := (by simpa [PMk] using hx_); obtain ⟨g_, rfl, hm⟩ := hT_.sb; refine ⟨rfl, ?_⟩; (with_reducible apply wq_stW hm); (exact rfl); infer_instance; (exact rfl); (exact rfl); (focus ((repeat (first | exact .hd | assumption | apply Swap.tl)); done)); (focus (first | rfl | omega | (simp; done) | (simp; omega) | fail)); (focus (first | rfl | omega | (simp; done) | (simp; omega) | fail)); (focus (first | exact one_map _ | (simp [one8, one32, one64]; done) | fail)); clear hm; intro w_ hm; exact mark_end rfl (fun u_ => hT_.j3 hm)))
        | (apply pwalk_is rfl rfl rfl rfl
           · (intro vs_ wx hJ_; obtain ⟨a_, b_, c_, d_, rfl, hT_⟩ := hJ_; have hm := hT_.low; first | ((with_reducible show gives _ _ _ (Sem.run _ (execOp _ (Oper.mk _ (Op.load _ _) _ _ _ _)) _)); first | ((with_reducible apply gq_ldv hm); infer_instance; (exact rfl); (focus ((repeat (first | exact .hd | assumption | apply Has.tl)); done)); (focus (first | omega | (simp; omega) | (refine Nat.lt_of_lt_of_le (BitVec.isLt _) ?_; first | omega | (simp; done) | (simp; omega) | fail) | fail))) | ((with_reducible apply gq_ldW hm); infer_instance; (exact rfl); (focus ((repeat (first | exact .hd | assumption | apply Has.tl)); done)); (focus (first | rfl | omega | (simp; done) | (simp; omega) | fail))) | ((with_reducible apply gq_ld1 hm); infer_instance; (exact rfl); (focus ((repeat (first | exact .hd | assumption | apply Has.tl)); done)); (exact rfl)) | fail) | (go_simp; (try go_bits); first | exact gives_same | exact gives_skip))
           · (simp only [Act.put, List.setIfInBounds_toArray, List.set_cons_succ, List.set_cons_zero]; rfl)))
    intro vs_ wz hJ_ hl_ hall_
    simp only [List.zip_cons_cons, List.zip_nil_right]
    repeat rw [pfin_is]
    rw [pfin_cons]; intro x4 hx4
    repeat rw [pfin_is]
    rw [pfin_cons]; intro x5 hx5
    repeat rw [pfin_is]
    rw [pfin_cons]; intro y4 hy4
    repeat rw [pfin_is]
    rw [pfin_cons]; intro y5 hy5
    repeat rw [pfin_is]
    rw [pfin_nil]
    simp only [Act.put, List.setIfInBounds_toArray, List.set_cons_succ, List.set_cons_zero]
    obtain ⟨a_, b_, c_, d_, rfl, hT_⟩ := hJ_
    obtain ⟨p_, q_, r_, s_, rfl, rfl, rfl, rfl⟩ := some4 hall_
    clear hm
    obtain ⟨g4_, g5_, rfl, rfl, hm⟩ := hT_.fin
    obtain rfl := pmk0 hx4
    obtain rfl := pmk1 hx5
    clear hT_ hl_ hall_ hx4 hx5 hy4 hy5 y4 y5
    go_wp2_with (first | (go_at_call 19; (with_reducible refine (CR.out _).mono ?_); rintro e_ w_ ⟨rfl, rfl⟩) | fail)
    go_ret
    exact ⟨rfl, hm.x⟩

end Go.Proofs.YtmgopjeaehmbfaaDoor
