/-
  THE STATEMENT OctetXors, PROVED: put together by exclusive or twice a row is what it was. No conditions.
-/
import Derived.Test.YtmapcfhhklapbaaOct4
namespace Go.Proofs.Ytmapcfhhklapbaa
open Go Go.RowKit

theorem xorL_comm (a b : List Byte) : xorL b a = xorL a b := by
  unfold xorL
  rw [List.zipWith_comm]
  congr 1
  funext x y
  exact BitVec.xor_comm _ _
theorem xorL_twice (a b : List Byte) (h : a.length ≤ b.length) : xorL (xorL a b) b = a := by
  apply List.ext_getElem
  · simp [xorL_length]; omega
  · intro i h1 h2
    simp [xorL, BitVec.xor_assoc]

set_option maxHeartbeats 1000000 in
theorem xors_walk (a : List Byte) (p : Option Addr) (c : Nat) (b : List Byte) (q : Option Addr) (d : Nat) (w : World) (ha : RdB w p a) (hma : a.length ≤ maxLen) (hb : RdB w q b) (hmb : b.length ≤ maxLen) :
    Calls Try.prog 5 #[.slice p a.length c, .slice q b.length d] w fun e w' => e = .returned (.bool true) ∧ Ext w w' := by
  unfold maxLen at hma hmb
  by_cases h1 : (300 : Int) < a.length
  · clear ha hb
    go_enter Try.func5, Try.ntmps5
    go_wp2
    go_ret
    exact ⟨rfl, Ext.refl w⟩
  by_cases h2 : (300 : Int) < b.length
  · clear ha hb
    go_enter Try.func5, Try.ntmps5
    go_wp2
    go_ret
    exact ⟨rfl, Ext.refl w⟩
  by_cases h3 : (b.length : Int) < a.length
  · clear ha hb
    go_enter Try.func5, Try.ntmps5
    go_wp2
    go_ret
    exact ⟨rfl, Ext.refl w⟩
  have e1 := xorL_twice a b (by omega)
  have e2 := xorL_comm a b
  have E1 := Lib.hid e1
  have E2 := Lib.hid e2
  clear e1 e2
  have hlx := xorL_length a b
  have Hlx := Lib.hid hlx
  clear hlx
  go_enter Try.func5, Try.ntmps5
  go_wp2_with fail
  refine (xor_any a b p q c d _ ha hb (by omega) (by omega)).mono ?_
  rintro e w1 ⟨v, rfl, hv, hx1⟩
  obtain ⟨px, cx, rfl, hcx, hbx⟩ := hv
  have ha1 := ha.ext hx1
  have hb1 := hb.ext hx1
  have c1 := fun wx (hwx : Ext w1 wx) => E1.out ▸ xor_any (xorL a b) b px q cx d wx (hbx.ext hwx) (hb1.ext hwx) (by have := Hlx.out; omega) (by omega)
  have c2 := fun wx (hwx : Ext w1 wx) => E2.out ▸ xor_any b a q p d c wx (hb1.ext hwx) (ha1.ext hwx) (by omega) (by omega)
  have s1 := fun wx (hwx : Ext w1 wx) => conv_str p a c wx (ha1.ext hwx)
  have s2 := fun wx (hwx : Ext w1 wx) => conv_str px (xorL a b) cx wx (hbx.ext hwx)
  go_wp2
  refine region_at 20 (fun w' => Ext w1 w') 43 (by kernel_rfl) (by kernel_rfl) rfl (fun _ _ h k => h.trans k) (drew_ext _) ?_
  simp only [List.take_succ_cons, List.take_zero, List.drop_succ_cons, List.drop_zero, List.map_cons, List.map_nil]
  repeat (first
      | (apply walk_some (BytesS a) 26 (BytesS.stable _) rfl rfl rfl rfl
         · (intro wx hwx; go_simp; with_reducible exact gives_callR (c1 wx hwx)))
      | (apply walk_from (T := [(27, BytesS (a))]) rfl rfl
         · (intro wx hwx; simp only [withS]; (rintro x ⟨p', c', rfl, hlc, hb'⟩; have hcv := conv_str p' (a) c' wx hb'); refine ⟨rfl, ?_⟩; go_simp; exact gives_same)
         · (simp only [Act.put, List.setIfInBounds_toArray, List.set_cons_succ, List.set_cons_zero]; rfl))
      | (apply walk_from (T := [(26, BytesS (a))]) rfl rfl
         · (intro wx hwx; simp only [withS]; (rintro x ⟨p', c', rfl, hlc, hb'⟩; have hcv := conv_str p' (a) c' wx hb'); refine ⟨rfl, ?_⟩; go_simp; exact gives_same)
         · (simp only [Act.put, List.setIfInBounds_toArray, List.set_cons_succ, List.set_cons_zero]; rfl))
      | (apply walk_some (BytesS (xorL a b)) 34 (BytesS.stable _) rfl rfl rfl rfl
         · (intro wx hwx; go_simp; with_reducible exact gives_callR (c2 wx hwx)))
      | (apply walk_from (T := [(34, BytesS (xorL a b))]) rfl rfl
         · (intro wx hwx; simp only [withS]; (rintro x ⟨p', c', rfl, hlc, hb'⟩; have hcv := conv_str p' (xorL a b) c' wx hb'); refine ⟨rfl, ?_⟩; go_simp; exact gives_same)
         · (simp only [Act.put, List.setIfInBounds_toArray, List.set_cons_succ, List.set_cons_zero]; rfl))
      | (apply walk_is rfl rfl rfl
         · (intro wx hwx; go_simp; (try go_bits); first | exact gives_same | exact gives_skip | with_reducible exact gives_call (awake1 wx))
         · (simp only [Act.put, List.setIfInBounds_toArray, List.set_cons_succ, List.set_cons_zero]; rfl))
      | (apply walk_not rfl rfl rfl
         · (simp only [Act.put, List.setIfInBounds_toArray, List.set_cons_succ, List.set_cons_zero]; rfl)))
  intro wz hwz
  simp only [List.zip_cons_cons, List.zip_nil_right]
  repeat (first | rw [fin_is] | (rw [fin_cons]; intro _ _))
  rw [fin_nil]
  simp only [Act.put, List.setIfInBounds_toArray, List.set_cons_succ, List.set_cons_zero]
  go_wp2
  go_ret
  exact ⟨rfl, hx1.trans hwz⟩

end Go.Proofs.Ytmapcfhhklapbaa
