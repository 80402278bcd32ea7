/-
  Layer 1: the reference's rows: padded, marked, put together by exclusive or. Conditions: rows of at most 2^46 bytes, sizes to 2^31.
-/
import Derived.Test.YtmapcfhhklapbaaOct9
namespace Go.Proofs.Ytmapcfhhklapbaa
open Go Go.RowKit

/-- A row and so many noughts. (Behind a name: not to be laid open by the walk.) -/
def padN (l : List Byte) (j : Nat) : List Byte := l ++ List.replicate j 0
theorem padN_length (l : List Byte) (j : Nat) : (padN l j).length = l.length + j := by simp [padN]
theorem padN_succ (l : List Byte) (j : Nat) : padN l j ++ [0#8] = padN l (j + 1) := by simp [padN, List.replicate_succ']
theorem padN_pad (l : List Byte) (s : Int) : padN l (roomN l.length s) = pad l s := rfl
theorem room_not (n j : Nat) (s : Int) (hs : 0 < s) (hj : j < roomN n s) : ((n + j : Nat) : Int) % s ≠ 0 := by
  obtain ⟨k, rfl⟩ := Int.eq_ofNat_of_zero_le (show 0 ≤ s by omega)
  have hk : 0 < k := by omega
  unfold roomN at hj
  rw [if_neg (by omega), Int.toNat_natCast] at hj
  have hlt : n % k < k := Nat.mod_lt _ hk
  have hne : n % k ≠ 0 := by intro h; rw [h, Nat.sub_zero, Nat.mod_self] at hj; omega
  rw [Nat.mod_eq_of_lt (by omega)] at hj
  have e : (n + j) % k = n % k + j := by
    rw [Nat.add_mod, Nat.mod_eq_of_lt (show j < k by omega), Nat.mod_eq_of_lt (by omega)]
  intro h
  have : ((n + j) % k : Nat) = 0 := by have := h; rw [← Int.natCast_emod] at this; omega
  omega
theorem room_is (n : Nat) (s : Int) (hs : 0 < s) : ((n + roomN n s : Nat) : Int) % s = 0 := by
  obtain ⟨k, rfl⟩ := Int.eq_ofNat_of_zero_le (show 0 ≤ s by omega)
  have hk : 0 < k := by omega
  unfold roomN
  rw [if_neg (by omega), Int.toNat_natCast, ← Int.natCast_emod]
  have hlt : n % k < k := Nat.mod_lt _ hk
  have : (n + (k - n % k) % k) % k = 0 := by
    by_cases h : n % k = 0
    · rw [h, Nat.sub_zero, Nat.mod_self, Nat.add_zero, h]
    · rw [Nat.mod_eq_of_lt (show k - n % k < k by omega)]
      have e : n + (k - n % k) = k * (n / k) + k := by have := Nat.div_add_mod n k; omega
      rw [e, Nat.mul_add_mod, Nat.mod_self]
  rw [this]; rfl

set_option maxHeartbeats 1000000 in
theorem rpadded_any (l : List Byte) (p : Option Addr) (c : Nat) (s : Int) (w0 : World) (h : RdB w0 p l) (hc : l.length ≤ c) (hl : l.length ≤ 70368744177664) (h0 : -9223372036854775808 ≤ s) (h1 : s ≤ 2147483648) :
    Calls Try.prog 33 #[.slice p l.length c, .int .i64 s] w0 fun e w' => ∃ v, e = .returned v ∧ OwnB w' w0.heap.size v (pad l s) ∧ Ext w0 w' := by
  have hr := roomN_lt l.length s
  have hp := padN_pad l s
  have hroom0 : s ≤ 0 → roomN l.length s = 0 := fun hs => by unfold roomN; rw [if_pos (by omega)]
  have hno := fun (j : Nat) (hs : 0 < s) (hj : j < roomN l.length s) => room_not l.length j s hs hj
  have hyes := fun (hs : 0 < s) => room_is l.length s hs
  generalize roomN l.length s = R at *
  have Hp := Lib.hid hp
  clear hp
  go_enter Try.func33, Try.ntmps33
  go_wp2_with (with_reducible show wpList _ _ _ _ _ _; refine wpl_app (m := l) rfl rfl rfl rfl rfl (OwnB.made w0 _ (Nat.le_refl _)) (h.ext ((Ext.refl _).alloc _)) hc (by simp; omega) (by simp) ?_)
  intro v w1 ho hb _
  have hx1 : Ext w0 w1 := ((Ext.refl w0).alloc _).trans' hb
  obtain ⟨q0, d0, rfl, _, _⟩ := ho.slice
  go_wp2
  go_loopw [5] (fun u wr => ∃ k : Nat, k ≤ R ∧ OwnB wr w0.heap.size u (padN l k) ∧ Ext w0 wr) (fun u _ => (l.length + R) - (match u with | .slice _ n _ => n | _ => 0))
  case atStart => exact ⟨0, Nat.zero_le _, by simpa [padN] using ho, hx1⟩
  case round =>
    obtain ⟨k, hk, hown, hx⟩ := hrel
    obtain ⟨q, d, rfl, hd, hrd⟩ := hown.slice
    have hlen := padN_length l k
    have hsz := hx.size
    rw [hlen] at hd hown ⊢
    by_cases hlt : k < R
    · have hs : 0 < s := by
        by_cases hs : 0 < s
        · exact hs
        · have := hroom0 (by omega); omega
      have hne := hno k hs hlt
      have hne2 : (((l.length : Int) + (k : Int)) % s == 0) = false := by simpa using hne
      have hs2 : (0 : Int) < s := hs
      have hsne : (s == 0) = false := by simp; omega
      have e1 := padN_succ l k
      have HE := Lib.hid e1
      have Hlen := Lib.hid hlen
      clear e1 hlen hne hno hyes
      go_wp2_with (with_reducible show wpList _ _ _ _ _ _; refine wpl_app (m := [0#8]) rfl rfl rfl rfl rfl (hown.alloc _) (one_new _ _) (by simp) (by have := Hlen.out; simp; omega) (by simp; omega) ?_)
      intro v' w' ho' hb' _
      rw [HE.out] at ho'
      obtain ⟨q', d', rfl, _, _⟩ := ho'.slice
      have hx' : Ext w0 w' := (hx.alloc _).trans' hb'
      have hl2 := padN_length l (k + 1)
      go_wp2
      go_roundw
      case rel => exact ⟨k + 1, by omega, ho', hx'⟩
      case measure => simp [padN_length]; omega
    · obtain rfl : k = R := by omega
      rw [Hp.out] at hown
      by_cases hs : 0 < s
      · have hy := hyes hs
        have hy2 : (((l.length : Int) + (k : Int)) % s == 0) = true := by simpa using hy
        have hsne : (s == 0) = false := by simp; omega
        clear hno hyes hy hlen
        go_wp2
        go_ret
        exact ⟨_, rfl, hown, hx⟩
      · have hs' : s ≤ 0 := by omega
        obtain rfl := hroom0 hs'
        clear hno hyes hlen hroom0 Hp
        simp only [Nat.add_zero] at *
        go_wp2
        go_ret
        exact ⟨_, rfl, hown, hx⟩

set_option maxHeartbeats 1000000 in
theorem rmarked_any (l : List Byte) (p : Option Addr) (c : Nat) (m : Byte) (s : Int) (w0 : World) (h : RdB w0 p l) (hc : l.length ≤ c) (hl : l.length ≤ 70368744177000) (h0 : -9223372036854775808 ≤ s) (h1 : s ≤ 2147483648) :
    GivesR Try.prog 34 #[.slice p l.length c, v8 m, .int .i64 s] w0 (BytesS (marked l m s)) := by
  unfold GivesR
  go_enter Try.func34, Try.ntmps34
  go_wp2_with (with_reducible show wpList _ _ _ _ _ _; refine wpl_app (m := l) rfl rfl rfl rfl rfl (OwnB.made w0 _ (Nat.le_refl _)) (h.ext ((Ext.refl _).alloc _)) hc (by simp; omega) (by simp) ?_)
  intro v w1 ho hb _
  have hx1 : Ext w0 w1 := ((Ext.refl w0).alloc _).trans' hb
  have hs1 := hx1.size
  obtain ⟨q1, d1, n1, rfl, hn1, hn2⟩ := ho.slice'
  go_wp2_with (with_reducible show wpList _ _ _ _ _ _; refine wpl_app (m := [m]) rfl rfl rfl rfl rfl (ho.alloc _) (one_new _ _) (by simp) (by simp; omega) (by simp; omega) ?_)
  intro v2 w2 ho2 hb2 _
  have hx2 : Ext w0 w2 := (hx1.alloc _).trans' hb2
  replace ho2 : OwnB w2 w0.heap.size v2 (with1 l m) := ho2
  obtain ⟨q, d, rfl, hd, hr⟩ := ho2.slice
  have hwl := with1_length l m
  have Hwl := Lib.hid hwl
  clear hwl
  go_wp2_with fail
  refine (rpadded_any (with1 l m) q d s _ hr hd (by rw [Hwl.out]; omega) h0 h1).mono ?_
  rintro e w3 ⟨v, rfl, ho3, hx3⟩
  go_wp2
  go_ret
  exact ⟨_, rfl, ho3.reads, hx2.trans hx3⟩

set_option maxHeartbeats 1000000 in
theorem rxor_any (a b : List Byte) (p q : Option Addr) (c d : Nat) (w0 : World) (ha : RdB w0 p a) (hb : RdB w0 q b) (hla : a.length ≤ 70368744177664) (hlb : b.length ≤ 70368744177664) :
    GivesR Try.prog 35 #[.slice p a.length c, .slice q b.length d] w0 (BytesS (xorL a b)) := by
  unfold GivesR
  have hstep : ∀ k, k < a.length → k < b.length → (xorL a b).take k ++ [nth a k ^^^ nth b k] = (xorL a b).take (k + 1) := by
    intro k h1 h2
    have h3 : k < (xorL a b).length := by rw [xorL_length]; omega
    rw [List.take_succ_eq_append_getElem h3]
    simp [xorL, nth, h1, h2]
  have hlx := xorL_length a b
  have hend : ∀ k, (xorL a b).length ≤ k → (xorL a b).take k = xorL a b := fun k hk => List.take_of_length_le hk
  generalize xorL a b = X at *
  have Hlx := Lib.hid hlx
  have Hend := Lib.hid hend
  have Hstep := Lib.hid hstep
  clear hlx hend hstep
  go_enter Try.func35, Try.ntmps35
  go_wp2
  go_loopw [5, 6] (fun v i wr => ∃ k : Nat, k ≤ a.length ∧ k ≤ b.length ∧ i = .int .i64 k ∧ OwnB wr w0.heap.size v (X.take k) ∧ Ext w0 wr) (fun _ i _ => a.length - (intOf i).toNat)
  case atStart => exact ⟨0, by omega, by omega, rfl, OwnB.nil _ _, Ext.refl _⟩
  case round =>
    obtain ⟨k, hk1, hk2, rfl, hown, hx⟩ := hrel
    obtain ⟨qv, dv, nv, rfl, hnv1, hnv2⟩ := hown.slice'
    have hlt' : (X.take k).length ≤ k := by simp; omega
    by_cases h1 : k < a.length
    · by_cases h2 : k < b.length
      · have ra := fun wx (hwx : Ext wr wx) => (ha.ext hx).ext hwx
        have rb := fun wx (hwx : Ext wr wx) => (hb.ext hx).ext hwx
        have hpa := (ha.ext hx).isSome k (by omega)
        have hpb := (hb.ext hx).isSome k (by omega)
        have hsz := hx.size
        go_wp2
        refine region_new 11 (fun w' => Ext wr w') 32 (by kernel_rfl) (by kernel_rfl) rfl (fun _ _ h k => h.trans k) (drew_ext _) ?_
        simp only [List.take_succ_cons, List.take_zero, List.drop_succ_cons, List.drop_zero, List.map_cons, List.map_nil]
        repeat (first
            | (apply walk_is rfl rfl rfl
               · (intro wx hwx; (with_reducible apply gq_rdb (ra wx hwx)); infer_instance; (exact rfl); (focus (first | omega | (simp; omega) | (refine Nat.lt_of_lt_of_le (BitVec.isLt _) ?_; first | omega | (simp; done) | (simp; omega) | fail) | fail)))
               · (simp only [Act.put, List.setIfInBounds_toArray, List.set_cons_succ, List.set_cons_zero]; rfl))
            | (apply walk_is rfl rfl rfl
               · (intro wx hwx; (with_reducible apply gq_rdb (rb wx hwx)); infer_instance; (exact rfl); (focus (first | omega | (simp; omega) | (refine Nat.lt_of_lt_of_le (BitVec.isLt _) ?_; first | omega | (simp; done) | (simp; omega) | fail) | fail)))
               · (simp only [Act.put, List.setIfInBounds_toArray, List.set_cons_succ, List.set_cons_zero]; rfl))
            | (apply walk_some (BytesS [nth a k ^^^ nth b k]) 29 (BytesS.stable _) rfl rfl rfl rfl
               · (intro wx hwx; go_simp; exact gives_val (Ext.alloc (Ext.refl _) _) (bytes_new _ [nth a k ^^^ nth b k] _)))
            | (apply walk_is rfl rfl rfl
               · (intro wx hwx; first | ((with_reducible show gives _ _ _ (Sem.run _ (execOp _ (Oper.mk _ (Op.load _ _) _ _ _ _)) _)); first | ((with_reducible apply gq_ldv (hm.ext hwx)); infer_instance; (exact rfl); (focus ((repeat (first | exact .hd | assumption | apply Has.tl)); done)); (focus (first | omega | (simp; omega) | (refine Nat.lt_of_lt_of_le (BitVec.isLt _) ?_; first | omega | (simp; done) | (simp; omega) | fail) | fail))) | ((with_reducible apply gq_ldW (hm.ext hwx)); infer_instance; (exact rfl); (focus ((repeat (first | exact .hd | assumption | apply Has.tl)); done)); (focus (first | rfl | omega | (simp; done) | (simp; omega) | fail))) | ((with_reducible apply gq_ld1 (hm.ext hwx)); infer_instance; (exact rfl); (focus ((repeat (first | exact .hd | assumption | apply Has.tl)); done)); (exact rfl)) | fail) | (go_simp; (try go_bits); first | exact gives_same | exact gives_skip))
               · (simp only [Act.put, List.setIfInBounds_toArray, List.set_cons_succ, List.set_cons_zero]; rfl))
            | (apply walk_not rfl rfl rfl
               · (simp only [Act.put, List.setIfInBounds_toArray, List.set_cons_succ, List.set_cons_zero]; rfl)))
        intro wz hwz
        simp only [List.zip_cons_cons, List.zip_nil_right]
        repeat rw [fin_is]
        rw [fin_cons]; intro x29 hx29
        repeat rw [fin_is]
        rw [fin_nil]; intro hap
        simp only [Act.put, List.setIfInBounds_toArray, List.set_cons_succ, List.set_cons_zero] at hap ⊢
        obtain ⟨p9, c9, rfl, hc9, hr9⟩ := hx29
        have hsz2 := hwz.size
        go_wp2_with (with_reducible show wpList _ _ _ _ _ _; refine wpl_app (m := [nth a k ^^^ nth b k]) rfl rfl rfl rfl rfl (hown.ext hwz) hr9 hc9 (by simp; omega) (by omega) ?_)
        intro v' w' ho' hb' _
        rw [Hstep.out k h1 h2] at ho'
        have hx' : Ext w0 w' := (hx.trans hwz).trans' hb'
        go_wp2
        go_roundw
        case rel => exact ⟨k + 1, by omega, by omega, by go_num, ho', hx'⟩
        case measure => simp [intOf] <;> omega
      · obtain rfl : k = b.length := by omega
        rw [Hend.out _ (by have := Hlx.out; omega)] at hown
        go_wp2
        go_ret
        exact ⟨_, rfl, hown.reads, hx⟩
    · obtain rfl : k = a.length := by omega
      rw [Hend.out _ (by have := Hlx.out; omega)] at hown
      go_wp2
      go_ret
      exact ⟨_, rfl, hown.reads, hx⟩

/-- Rows, a mark and a size, as a value. -/
abbrev RowsV (a b : List Byte) (p q : Option Addr) (c d : Nat) (m : Byte) (s : Int) : Value := .agg #[.slice p a.length c, .slice q b.length d, v8 m, .int .i64 s]

set_option maxHeartbeats 1000000 in
theorem few_yes (a b : List Byte) (p q : Option Addr) (c d : Nat) (m : Byte) (s : Int) (w0 : World) (h1 : a.length ≤ 300) (h2 : b.length ≤ 300) (h3 : s ≤ 300) :
    Gives Try.prog 29 #[RowsV a b p q c d m s] w0 (.bool true) := by
  unfold Gives
  have hm := Own.start w0
  have h1' : (a.length : Int) ≤ 300 := by omega
  have h2' : (b.length : Int) ≤ 300 := by omega
  go_enter Try.func29, Try.ntmps29
  go_wp2_with (first | ((with_reducible show wpList _ _ _ (Oper.mk _ (Op.load _ _) _ _ _ _ :: _) _ _); first | ((with_reducible apply wq_ldv hm); (exact rfl); infer_instance; (exact rfl); (focus ((repeat (first | exact .hd | assumption | apply Has.tl)); done)); (focus (first | omega | (simp; omega) | (refine Nat.lt_of_lt_of_le (BitVec.isLt _) ?_; first | omega | (simp; done) | (simp; omega) | fail) | fail))) | ((with_reducible apply wq_ldW hm); (exact rfl); infer_instance; (exact rfl); (focus ((repeat (first | exact .hd | assumption | apply Has.tl)); done)); (focus (first | rfl | omega | (simp; done) | (simp; omega) | fail))) | ((with_reducible apply wq_ld1 hm); (exact rfl); infer_instance; (exact rfl); (focus ((repeat (first | exact .hd | assumption | apply Has.tl)); done)); (exact rfl)) | fail) | ((((with_reducible show wpList _ _ _ (Oper.mk _ (Op.store _ _ _) _ _ _ _ :: _) _ _); first | ((with_reducible apply wq_stv hm); (exact rfl); infer_instance; (exact rfl); (focus ((repeat (first | exact .hd | assumption | apply Swap.tl)); done)); infer_instance; (exact rfl); (focus (first | omega | (simp; omega) | (refine Nat.lt_of_lt_of_le (BitVec.isLt _) ?_; first | omega | (simp; done) | (simp; omega) | fail) | fail))) | ((with_reducible apply wq_st8i hm); (exact rfl); infer_instance; (exact rfl); (exact rfl); (focus ((repeat (first | exact .hd | assumption | apply Swap.tl)); done)); (focus omega); (focus (first | omega | (simp; omega) | (refine Nat.lt_of_lt_of_le (BitVec.isLt _) ?_; first | omega | (simp; done) | (simp; omega) | fail) | fail))) | ((with_reducible apply wq_st64i hm); (exact rfl); infer_instance; (exact rfl); (exact rfl); (focus ((repeat (first | exact .hd | assumption | apply Swap.tl)); done)); (focus omega); (focus (first | omega | (simp; omega) | (refine Nat.lt_of_lt_of_le (BitVec.isLt _) ?_; first | omega | (simp; done) | (simp; omega) | fail) | fail))) | ((with_reducible apply wq_stW hm); (exact rfl); infer_instance; (exact rfl); (exact rfl); (focus ((repeat (first | exact .hd | assumption | apply Swap.tl)); done)); (focus (first | rfl | omega | (simp; done) | (simp; omega) | fail)); (focus (first | rfl | omega | (simp; done) | (simp; omega) | fail)); (focus (first | exact one_map _ | (simp [one8, one32, one64]; done) | fail))) | ((with_reducible apply wq_st1 hm); (exact rfl); infer_instance; (exact rfl); (exact rfl); (exact rfl); (exact rfl); (focus ((repeat (first | exact .hd | assumption | apply Swap.tl)); done)); (focus (first | omega | (simp; omega) | (refine Nat.lt_of_lt_of_le (BitVec.isLt _) ?_; first | omega | (simp; done) | (simp; omega) | fail) | fail))) | fail)); clear hm; intro w hm) | ((first | ((with_reducible show wpList _ _ _ (Oper.mk _ (Op.alloc _) _ _ _ _ :: _) _ _); first | ((with_reducible apply wq_new hm); (exact rfl); infer_instance) | fail) | ((with_reducible show wpList _ _ _ (Oper.mk _ (Op.box _ _) _ _ _ _ :: _) _ _); first | ((with_reducible apply wq_boxN hm); (exact rfl); (exact rfl)) | ((with_reducible apply wq_box1 hm); (exact rfl); (exact rfl); (exact rfl)) | fail)); clear hm; (first | (have hx_ := g1; clear hx_; (first | (have hx_ := g2; clear hx_; (first | (have hx_ := g3; clear hx_; (first | (have hx_ := g4; clear hx_; (first | (have hx_ := g5; clear hx_; (first | (have hx_ := g6; clear hx_; (first | (have hx_ := g7; clear hx_; (first | (have hx_ := g8; clear hx_; (first | (have hx_ := g9; clear hx_; intro g10) | intro g9)) | intro g8)) | intro g7)) | intro g6)) | intro g5)) | intro g4)) | intro g3)) | intro g2)) | intro g1); intro w hm) | fail)
  go_ret
  exact ⟨rfl, hm.x⟩
theorem few_no (a b : List Byte) (p q : Option Addr) (c d : Nat) (m : Byte) (s : Int) (w0 : World) (h : ¬ (a.length ≤ 300 ∧ b.length ≤ 300 ∧ s ≤ 300)) :
    Gives Try.prog 29 #[RowsV a b p q c d m s] w0 (.bool false) := by
  unfold Gives
  have hm := Own.start w0
  by_cases h1 : a.length ≤ 300
  · have h1' : (a.length : Int) ≤ 300 := by omega
    by_cases h2 : b.length ≤ 300
    · have h2' : (b.length : Int) ≤ 300 := by omega
      have h3 : ¬ s ≤ 300 := by omega
      clear h
      go_enter Try.func29, Try.ntmps29
      go_wp2_with (first | ((with_reducible show wpList _ _ _ (Oper.mk _ (Op.load _ _) _ _ _ _ :: _) _ _); first | ((with_reducible apply wq_ldv hm); (exact rfl); infer_instance; (exact rfl); (focus ((repeat (first | exact .hd | assumption | apply Has.tl)); done)); (focus (first | omega | (simp; omega) | (refine Nat.lt_of_lt_of_le (BitVec.isLt _) ?_; first | omega | (simp; done) | (simp; omega) | fail) | fail))) | ((with_reducible apply wq_ldW hm); (exact rfl); infer_instance; (exact rfl); (focus ((repeat (first | exact .hd | assumption | apply Has.tl)); done)); (focus (first | rfl | omega | (simp; done) | (simp; omega) | fail))) | ((with_reducible apply wq_ld1 hm); (exact rfl); infer_instance; (exact rfl); (focus ((repeat (first | exact .hd | assumption | apply Has.tl)); done)); (exact rfl)) | fail) | ((((with_reducible show wpList _ _ _ (Oper.mk _ (Op.store _ _ _) _ _ _ _ :: _) _ _); first | ((with_reducible apply wq_stv hm); (exact rfl); infer_instance; (exact rfl); (focus ((repeat (first | exact .hd | assumption | apply Swap.tl)); done)); infer_instance; (exact rfl); (focus (first | omega | (simp; omega) | (refine Nat.lt_of_lt_of_le (BitVec.isLt _) ?_; first | omega | (simp; done) | (simp; omega) | fail) | fail))) | ((with_reducible apply wq_st8i hm); (exact rfl); infer_instance; (exact rfl); (exact rfl); (focus ((repeat (first | exact .hd | assumption | apply Swap.tl)); done)); (focus omega); (focus (first | omega | (simp; omega) | (refine Nat.lt_of_lt_of_le (BitVec.isLt _) ?_; first | omega | (simp; done) | (simp; omega) | fail) | fail))) | ((with_reducible apply wq_st64i hm); (exact rfl); infer_instance; (exact rfl); (exact rfl); (focus ((repeat (first | exact .hd | assumption | apply Swap.tl)); done)); (focus omega); (focus (first | omega | (simp; omega) | (refine Nat.lt_of_lt_of_le (BitVec.isLt _) ?_; first | omega | (simp; done) | (simp; omega) | fail) | fail))) | ((with_reducible apply wq_stW hm); (exact rfl); infer_instance; (exact rfl); (exact rfl); (focus ((repeat (first | exact .hd | assumption | apply Swap.tl)); done)); (focus (first | rfl | omega | (simp; done) | (simp; omega) | fail)); (focus (first | rfl | omega | (simp; done) | (simp; omega) | fail)); (focus (first | exact one_map _ | (simp [one8, one32, one64]; done) | fail))) | ((with_reducible apply wq_st1 hm); (exact rfl); infer_instance; (exact rfl); (exact rfl); (exact rfl); (exact rfl); (focus ((repeat (first | exact .hd | assumption | apply Swap.tl)); done)); (focus (first | omega | (simp; omega) | (refine Nat.lt_of_lt_of_le (BitVec.isLt _) ?_; first | omega | (simp; done) | (simp; omega) | fail) | fail))) | fail)); clear hm; intro w hm) | ((first | ((with_reducible show wpList _ _ _ (Oper.mk _ (Op.alloc _) _ _ _ _ :: _) _ _); first | ((with_reducible apply wq_new hm); (exact rfl); infer_instance) | fail) | ((with_reducible show wpList _ _ _ (Oper.mk _ (Op.box _ _) _ _ _ _ :: _) _ _); first | ((with_reducible apply wq_boxN hm); (exact rfl); (exact rfl)) | ((with_reducible apply wq_box1 hm); (exact rfl); (exact rfl); (exact rfl)) | fail)); clear hm; (first | (have hx_ := g1; clear hx_; (first | (have hx_ := g2; clear hx_; (first | (have hx_ := g3; clear hx_; (first | (have hx_ := g4; clear hx_; (first | (have hx_ := g5; clear hx_; (first | (have hx_ := g6; clear hx_; (first | (have hx_ := g7; clear hx_; (first | (have hx_ := g8; clear hx_; (first | (have hx_ := g9; clear hx_; intro g10) | intro g9)) | intro g8)) | intro g7)) | intro g6)) | intro g5)) | intro g4)) | intro g3)) | intro g2)) | intro g1); intro w hm) | fail)
      go_ret
      exact ⟨rfl, hm.x⟩
    · have h2' : ¬ (b.length : Int) ≤ 300 := by omega
      clear h
      go_enter Try.func29, Try.ntmps29
      go_wp2_with (first | ((with_reducible show wpList _ _ _ (Oper.mk _ (Op.load _ _) _ _ _ _ :: _) _ _); first | ((with_reducible apply wq_ldv hm); (exact rfl); infer_instance; (exact rfl); (focus ((repeat (first | exact .hd | assumption | apply Has.tl)); done)); (focus (first | omega | (simp; omega) | (refine Nat.lt_of_lt_of_le (BitVec.isLt _) ?_; first | omega | (simp; done) | (simp; omega) | fail) | fail))) | ((with_reducible apply wq_ldW hm); (exact rfl); infer_instance; (exact rfl); (focus ((repeat (first | exact .hd | assumption | apply Has.tl)); done)); (focus (first | rfl | omega | (simp; done) | (simp; omega) | fail))) | ((with_reducible apply wq_ld1 hm); (exact rfl); infer_instance; (exact rfl); (focus ((repeat (first | exact .hd | assumption | apply Has.tl)); done)); (exact rfl)) | fail) | ((((with_reducible show wpList _ _ _ (Oper.mk _ (Op.store _ _ _) _ _ _ _ :: _) _ _); first | ((with_reducible apply wq_stv hm); (exact rfl); infer_instance; (exact rfl); (focus ((repeat (first | exact .hd | assumption | apply Swap.tl)); done)); infer_instance; (exact rfl); (focus (first | omega | (simp; omega) | (refine Nat.lt_of_lt_of_le (BitVec.isLt _) ?_; first | omega | (simp; done) | (simp; omega) | fail) | fail))) | ((with_reducible apply wq_st8i hm); (exact rfl); infer_instance; (exact rfl); (exact rfl); (focus ((repeat (first | exact .hd | assumption | apply Swap.tl)); done)); (focus omega); (focus (first | omega | (simp; omega) | (refine Nat.lt_of_lt_of_le (BitVec.isLt _) ?_; first | omega | (simp; done) | (simp; omega) | fail) | fail))) | ((with_reducible apply wq_st64i hm); (exact rfl); infer_instance; (exact rfl); (exact rfl); (focus ((repeat (first | exact .hd | assumption | apply Swap.tl)); done)); (focus omega); (focus (first | omega | (simp; omega) | (refine Nat.lt_of_lt_of_le (BitVec.isLt _) ?_; first | omega | (simp; done) | (simp; omega) | fail) | fail))) | ((with_reducible apply wq_stW hm); (exact rfl); infer_instance; (exact rfl); (exact rfl); (focus ((repeat (first | exact .hd | assumption | apply Swap.tl)); done)); (focus (first | rfl | omega | (simp; done) | (simp; omega) | fail)); (focus (first | rfl | omega | (simp; done) | (simp; omega) | fail)); (focus (first | exact one_map _ | (simp [one8, one32, one64]; done) | fail))) | ((with_reducible apply wq_st1 hm); (exact rfl); infer_instance; (exact rfl); (exact rfl); (exact rfl); (exact rfl); (focus ((repeat (first | exact .hd | assumption | apply Swap.tl)); done)); (focus (first | omega | (simp; omega) | (refine Nat.lt_of_lt_of_le (BitVec.isLt _) ?_; first | omega | (simp; done) | (simp; omega) | fail) | fail))) | fail)); clear hm; intro w hm) | ((first | ((with_reducible show wpList _ _ _ (Oper.mk _ (Op.alloc _) _ _ _ _ :: _) _ _); first | ((with_reducible apply wq_new hm); (exact rfl); infer_instance) | fail) | ((with_reducible show wpList _ _ _ (Oper.mk _ (Op.box _ _) _ _ _ _ :: _) _ _); first | ((with_reducible apply wq_boxN hm); (exact rfl); (exact rfl)) | ((with_reducible apply wq_box1 hm); (exact rfl); (exact rfl); (exact rfl)) | fail)); clear hm; (first | (have hx_ := g1; clear hx_; (first | (have hx_ := g2; clear hx_; (first | (have hx_ := g3; clear hx_; (first | (have hx_ := g4; clear hx_; (first | (have hx_ := g5; clear hx_; (first | (have hx_ := g6; clear hx_; (first | (have hx_ := g7; clear hx_; (first | (have hx_ := g8; clear hx_; (first | (have hx_ := g9; clear hx_; intro g10) | intro g9)) | intro g8)) | intro g7)) | intro g6)) | intro g5)) | intro g4)) | intro g3)) | intro g2)) | intro g1); intro w hm) | fail)
      go_ret
      exact ⟨rfl, hm.x⟩
  · have h1' : ¬ (a.length : Int) ≤ 300 := by omega
    clear h
    go_enter Try.func29, Try.ntmps29
    go_wp2_with (first | ((with_reducible show wpList _ _ _ (Oper.mk _ (Op.load _ _) _ _ _ _ :: _) _ _); first | ((with_reducible apply wq_ldv hm); (exact rfl); infer_instance; (exact rfl); (focus ((repeat (first | exact .hd | assumption | apply Has.tl)); done)); (focus (first | omega | (simp; omega) | (refine Nat.lt_of_lt_of_le (BitVec.isLt _) ?_; first | omega | (simp; done) | (simp; omega) | fail) | fail))) | ((with_reducible apply wq_ldW hm); (exact rfl); infer_instance; (exact rfl); (focus ((repeat (first | exact .hd | assumption | apply Has.tl)); done)); (focus (first | rfl | omega | (simp; done) | (simp; omega) | fail))) | ((with_reducible apply wq_ld1 hm); (exact rfl); infer_instance; (exact rfl); (focus ((repeat (first | exact .hd | assumption | apply Has.tl)); done)); (exact rfl)) | fail) | ((((with_reducible show wpList _ _ _ (Oper.mk _ (Op.store _ _ _) _ _ _ _ :: _) _ _); first | ((with_reducible apply wq_stv hm); (exact rfl); infer_instance; (exact rfl); (focus ((repeat (first | exact .hd | assumption | apply Swap.tl)); done)); infer_instance; (exact rfl); (focus (first | omega | (simp; omega) | (refine Nat.lt_of_lt_of_le (BitVec.isLt _) ?_; first | omega | (simp; done) | (simp; omega) | fail) | fail))) | ((with_reducible apply wq_st8i hm); (exact rfl); infer_instance; (exact rfl); (exact rfl); (focus ((repeat (first | exact .hd | assumption | apply Swap.tl)); done)); (focus omega); (focus (first | omega | (simp; omega) | (refine Nat.lt_of_lt_of_le (BitVec.isLt _) ?_; first | omega | (simp; done) | (simp; omega) | fail) | fail))) | ((with_reducible apply wq_st64i hm); (exact rfl); infer_instance; (exact rfl); (exact rfl); (focus ((repeat (first | exact .hd | assumption | apply Swap.tl)); done)); (focus omega); (focus (first | omega | (simp; omega) | (refine Nat.lt_of_lt_of_le (BitVec.isLt _) ?_; first | omega | (simp; done) | (simp; omega) | fail) | fail))) | ((with_reducible apply wq_stW hm); (exact rfl); infer_instance; (exact rfl); (exact rfl); (focus ((repeat (first | exact .hd | assumption | apply Swap.tl)); done)); (focus (first | rfl | omega | (simp; done) | (simp; omega) | fail)); (focus (first | rfl | omega | (simp; done) | (simp; omega) | fail)); (focus (first | exact one_map _ | (simp [one8, one32, one64]; done) | fail))) | ((with_reducible apply wq_st1 hm); (exact rfl); infer_instance; (exact rfl); (exact rfl); (exact rfl); (exact rfl); (focus ((repeat (first | exact .hd | assumption | apply Swap.tl)); done)); (focus (first | omega | (simp; omega) | (refine Nat.lt_of_lt_of_le (BitVec.isLt _) ?_; first | omega | (simp; done) | (simp; omega) | fail) | fail))) | fail)); clear hm; intro w hm) | ((first | ((with_reducible show wpList _ _ _ (Oper.mk _ (Op.alloc _) _ _ _ _ :: _) _ _); first | ((with_reducible apply wq_new hm); (exact rfl); infer_instance) | fail) | ((with_reducible show wpList _ _ _ (Oper.mk _ (Op.box _ _) _ _ _ _ :: _) _ _); first | ((with_reducible apply wq_boxN hm); (exact rfl); (exact rfl)) | ((with_reducible apply wq_box1 hm); (exact rfl); (exact rfl); (exact rfl)) | fail)); clear hm; (first | (have hx_ := g1; clear hx_; (first | (have hx_ := g2; clear hx_; (first | (have hx_ := g3; clear hx_; (first | (have hx_ := g4; clear hx_; (first | (have hx_ := g5; clear hx_; (first | (have hx_ := g6; clear hx_; (first | (have hx_ := g7; clear hx_; (first | (have hx_ := g8; clear hx_; (first | (have hx_ := g9; clear hx_; intro g10) | intro g9)) | intro g8)) | intro g7)) | intro g6)) | intro g5)) | intro g4)) | intro g3)) | intro g2)) | intro g1); intro w hm) | fail)
    go_ret
    exact ⟨rfl, hm.x⟩

end Go.Proofs.Ytmapcfhhklapbaa
