/-
  Layer 3, plain: tables of columns, rounds. No program in sight, no conditions.
  Layer 3, plain: the way back; rounds, one by one. No program in sight, no conditions.
-/
import Derived.Test.YtmgopjeaehmbfaaDoorGfp
import Derived.Test.YtmgopjeaehmbfaaDoorBit1
namespace Go.Proofs.YtmgopjeaehmbfaaDoor
open Go
set_option linter.unusedVariables false
set_option linter.unusedSimpArgs false

def mixesL : List Byte := [2#8, 3#8, 1#8, 1#8]
def unmixesL : List Byte := [14#8, 11#8, 13#8, 9#8]
/-- What a byte in a row brings to a column: its first r bytes. -/
def brg (by_ : List Byte) (row : Nat) (a : Byte) : Nat → BitVec 32
  | 0 => 0#32
  | r + 1 => brg by_ row a r ||| ((tms (nth by_ ((row + 4 - r) % 4)) a).setWidth 32 <<< (8 * r))
def mixF (i : Nat) : BitVec 32 := brg mixesL (i / 256) (bxTo (BitVec.ofNat 8 (i % 256))) 4
def unmixF (i : Nat) : BitVec 32 := brg unmixesL (i / 256) (BitVec.ofNat 8 (i % 256)) 4
def mixT : List (BitVec 32) := tab 1024 mixF
def unmixT : List (BitVec 32) := tab 1024 unmixF
theorem mixT_length : mixT.length = 1024 := tab_length
theorem unmixT_length : unmixT.length = 1024 := tab_length
theorem mixT_nth (row : Nat) (a : Byte) (h : row < 4) : nth mixT (row * 256 + a.toNat) = brg mixesL row (bxTo a) 4 := by
  have ha : a.toNat < 256 := a.isLt
  rw [mixT, nth_tab (by omega), mixF, show (row * 256 + a.toNat) / 256 = row from by omega, show (row * 256 + a.toNat) % 256 = a.toNat from by omega]
  simp
theorem unmixT_nth (row : Nat) (a : Byte) (h : row < 4) : nth unmixT (row * 256 + a.toNat) = brg unmixesL row a 4 := by
  have ha : a.toNat < 256 := a.isLt
  rw [unmixT, nth_tab (by omega), unmixF, show (row * 256 + a.toNat) / 256 = row from by omega, show (row * 256 + a.toNat) % 256 = a.toNat from by omega]
  simp
/-- The byte of a number of 32 bits. -/
def byteW (n : BitVec 32) (r : Nat) : Byte := (n >>> (8 * r)).setWidth 8
theorem byteW_xor (n m : BitVec 32) (r : Nat) : byteW (n ^^^ m) r = byteW n r ^^^ byteW m r := by
  simp only [byteW, BitVec.ushiftRight_xor_distrib, BitVec.setWidth_xor]
theorem byteW_or (n m : BitVec 32) (r : Nat) : byteW (n ||| m) r = byteW n r ||| byteW m r := by
  apply BitVec.eq_of_getLsbD_eq; intro i hi; simp [byteW, hi]
theorem byteW_shl (x : Byte) (s r : Nat) (hs : s < 4) (hr : r < 4) : byteW (x.setWidth 32 <<< (8 * s)) r = if s = r then x else 0#8 := by
  apply BitVec.eq_of_getLsbD_eq
  intro i hi
  simp only [byteW, BitVec.getLsbD_setWidth, BitVec.getLsbD_ushiftRight, BitVec.getLsbD_shiftLeft, hi, decide_true, Bool.true_and]
  by_cases e : s = r
  · subst e
    rw [if_pos rfl, show decide (8 * s + i < 8 * s) = false from by simp, show 8 * s + i - 8 * s = i from by omega]
    simp [show i < 32 by omega]; intro _; omega
  · rw [if_neg e]
    by_cases h : 8 * r + i < 8 * s
    · simp [h]
    · have : x.getLsbD (8 * r + i - 8 * s) = false := BitVec.getLsbD_of_ge _ _ (by omega)
      simp [this]
theorem byteW_brg (by_ : List Byte) (row : Nat) (a : Byte) (r : Nat) (hr : r < 4) : byteW (brg by_ row a 4) r = tms (nth by_ ((row + 4 - r) % 4)) a := by
  have key : ∀ k, k ≤ 4 → byteW (brg by_ row a k) r = if r < k then tms (nth by_ ((row + 4 - r) % 4)) a else 0#8 := by
    intro k
    induction k with
    | zero => intro _; simp [brg, byteW]
    | succ k ih =>
      intro hk
      rw [brg, byteW_or, ih (by omega), byteW_shl _ _ _ (by omega) hr]
      by_cases h1 : r < k
      · rw [if_pos h1, if_neg (by omega), if_pos (by omega)]; simp
      · by_cases h2 : k = r
        · subst h2; rw [if_neg (by omega), if_pos rfl, if_pos (by omega)]; simp
        · rw [if_neg h1, if_neg h2, if_neg (by omega)]; simp
  rw [key 4 (by omega), if_pos hr]
/-- The place from which the byte of a row and a column comes. -/
def shp (row col : Nat) : Nat := row + 4 * ((col + row) % 4)
theorem shp_lt (row col : Nat) (h : row < 4) : shp row col < 16 := by unfold shp; omega
/-- A column behind a round, its first rows put together. -/
def colW (b key : List Byte) (col : Nat) : Nat → BitVec 32
  | 0 => (nth key (4 * col)).setWidth 32 ||| ((nth key (4 * col + 1)).setWidth 32 <<< 8) ||| ((nth key (4 * col + 2)).setWidth 32 <<< 16) ||| ((nth key (4 * col + 3)).setWidth 32 <<< 24)
  | row + 1 => colW b key col row ^^^ brg mixesL row (bxTo (nth b (shp row col))) 4
def rndB (b key : List Byte) (i : Nat) : Byte := byteW (colW b key (i / 4) 4) (i % 4)
/-- A block behind a round. -/
def rnd (b key : List Byte) : List Byte := tab 16 (rndB b key)
def lastB (b key : List Byte) (i : Nat) : Byte := bxTo (nth b (shp (i % 4) (i / 4))) ^^^ nth key i
def last (b key : List Byte) : List Byte := tab 16 (lastB b key)
def rnds (b : List Byte) : List (List Byte) → List Byte
  | [] => b
  | k :: ks => rnds (rnd b k) ks
theorem rnd_length (b key : List Byte) : (rnd b key).length = 16 := tab_length
theorem last_length (b key : List Byte) : (last b key).length = 16 := tab_length
/-- The bytes of a round, one by one. -/
theorem rnd_nth (b key : List Byte) (i : Nat) (h : i < 16) : nth (rnd b key) i = nth key i ^^^ (((tms (nth mixesL ((0 + 4 - i % 4) % 4)) (bxTo (nth b (shp 0 (i / 4)))) ^^^ tms (nth mixesL ((1 + 4 - i % 4) % 4)) (bxTo (nth b (shp 1 (i / 4))))) ^^^ tms (nth mixesL ((2 + 4 - i % 4) % 4)) (bxTo (nth b (shp 2 (i / 4))))) ^^^ tms (nth mixesL ((3 + 4 - i % 4) % 4)) (bxTo (nth b (shp 3 (i / 4))))) := by
  rw [rnd, nth_tab h, rndB]
  have hr : i % 4 < 4 := Nat.mod_lt _ (by omega)
  have hk : byteW (colW b key (i / 4) 0) (i % 4) = nth key i := by
    have b0 : byteW ((nth key (4 * (i / 4))).setWidth 32) (i % 4) = if 0 = i % 4 then nth key (4 * (i / 4)) else 0#8 := by
      have := byteW_shl (nth key (4 * (i / 4))) 0 (i % 4) (by omega) hr; simpa using this
    have b1 : byteW ((nth key (4 * (i / 4) + 1)).setWidth 32 <<< 8) (i % 4) = if 1 = i % 4 then nth key (4 * (i / 4) + 1) else 0#8 := byteW_shl _ 1 (i % 4) (by omega) hr
    have b2 : byteW ((nth key (4 * (i / 4) + 2)).setWidth 32 <<< 16) (i % 4) = if 2 = i % 4 then nth key (4 * (i / 4) + 2) else 0#8 := byteW_shl _ 2 (i % 4) (by omega) hr
    have b3 : byteW ((nth key (4 * (i / 4) + 3)).setWidth 32 <<< 24) (i % 4) = if 3 = i % 4 then nth key (4 * (i / 4) + 3) else 0#8 := byteW_shl _ 3 (i % 4) (by omega) hr
    rw [colW, byteW_or, byteW_or, byteW_or, b0, b1, b2, b3]
    have hi : i = 4 * (i / 4) + i % 4 := by omega
    rcases (show i % 4 = 0 ∨ i % 4 = 1 ∨ i % 4 = 2 ∨ i % 4 = 3 by omega) with e | e | e | e <;> rw [e] at hi ⊢ <;> simp <;> exact congrArg (nth key) (by omega)
  simp only [colW] at hk ⊢
  simp only [byteW_xor, hk, byteW_brg _ _ _ _ hr]
  ac_rfl

end Go.Proofs.YtmgopjeaehmbfaaDoor
namespace Go.Proofs.YtmgopjeaehmbfaaDoor
open Go
set_option linter.unusedVariables false
set_option linter.unusedSimpArgs false

/-- Shifted back and boxed back: the first k places, column by column. -/
def unbF (b : List Byte) : Nat → List Byte
  | 0 => zer 16
  | k + 1 => setN (unbF b k) (shp (k % 4) (k / 4)) (bxBack (nth b k))
def unbL (b : List Byte) : List Byte := unbF b 16
theorem unbF_length (b : List Byte) (k : Nat) : (unbF b k).length = 16 := by
  induction k with
  | zero => exact zer_length
  | succ k ih => rw [unbF, setN_length, ih]
theorem unbL_length (b : List Byte) : (unbL b).length = 16 := unbF_length b 16
/-- The place to which the byte of a place comes back. -/
def ush (j : Nat) : Nat := j % 4 + 4 * ((j / 4 + 4 - j % 4) % 4)
theorem ush_lt (j : Nat) (h : j < 16) : ush j < 16 := by unfold ush; omega
theorem ush_shp (r c : Nat) (hr : r < 4) (hc : c < 4) : ush (shp r c) = r + 4 * c := by unfold ush shp; omega
theorem shp_ush (j : Nat) (h : j < 16) : shp (ush j % 4) (ush j / 4) = j := by unfold ush shp; omega
theorem shp_is (k j : Nat) (hk : k < 16) (hj : j < 16) : (shp (k % 4) (k / 4) = j) ↔ (ush j = k) := by unfold ush shp; omega
theorem unbF_nth (b : List Byte) (j : Nat) (hj : j < 16) : ∀ k, k ≤ 16 → nth (unbF b k) j = if ush j < k then bxBack (nth b (ush j)) else 0#8 := by
  intro k
  induction k with
  | zero => intro _; rw [if_neg (by omega), unbF, zer, nth_tab hj]; rfl
  | succ k ih =>
    intro hk
    rw [unbF, nth_set (by rw [unbF_length]; exact hj), ih (by omega)]
    by_cases e : ush j = k
    · rw [if_pos ((shp_is k j (by omega) hj).2 e), if_pos (by omega), e]
    · rw [if_neg (fun h => e ((shp_is k j (by omega) hj).1 h))]
      by_cases h : ush j < k
      · rw [if_pos h, if_pos (by omega)]
      · rw [if_neg h, if_neg (by omega)]
theorem unbL_nth (b : List Byte) (j : Nat) (h : j < 16) : nth (unbL b) j = bxBack (nth b (ush j)) := by rw [unbL, unbF_nth b j h 16 (Nat.le_refl _), if_pos (ush_lt j h)]

/-- What four bytes of a column come to, times a circulant matrix. -/
def cmb (by_ : List Byte) (r : Nat) (x : Nat → Byte) : Byte := ((tms (nth by_ ((0 + 4 - r) % 4)) (x 0) ^^^ tms (nth by_ ((1 + 4 - r) % 4)) (x 1)) ^^^ tms (nth by_ ((2 + 4 - r) % 4)) (x 2)) ^^^ tms (nth by_ ((3 + 4 - r) % 4)) (x 3)
theorem xor16 (a b c d e f g h i j k l m n o p : Byte) : (((((a ^^^ b) ^^^ c) ^^^ d) ^^^ (((e ^^^ f) ^^^ g) ^^^ h)) ^^^ (((i ^^^ j) ^^^ k) ^^^ l)) ^^^ (((m ^^^ n) ^^^ o) ^^^ p) = (((((a ^^^ e) ^^^ i) ^^^ m) ^^^ (((b ^^^ f) ^^^ j) ^^^ n)) ^^^ (((c ^^^ g) ^^^ k) ^^^ o)) ^^^ (((d ^^^ h) ^^^ l) ^^^ p) := by ac_rfl
theorem cmb_two (u m : List Byte) (r : Nat) (x : Nat → Byte) (q : Nat) (hq : q < 4)
    (h : ∀ k, k < 4 → ∀ y : Byte, ((tms (nth u ((0 + 4 - r) % 4)) (tms (nth m ((k + 4 - 0) % 4)) y) ^^^ tms (nth u ((1 + 4 - r) % 4)) (tms (nth m ((k + 4 - 1) % 4)) y)) ^^^ tms (nth u ((2 + 4 - r) % 4)) (tms (nth m ((k + 4 - 2) % 4)) y)) ^^^ tms (nth u ((3 + 4 - r) % 4)) (tms (nth m ((k + 4 - 3) % 4)) y) = if k = q then y else 0#8) :
    cmb u r (fun k => cmb m k x) = x q := by
  unfold cmb
  simp only [tms_xb]
  rw [xor16, h 0 (by omega), h 1 (by omega), h 2 (by omega), h 3 (by omega)]
  rcases (show q = 0 ∨ q = 1 ∨ q = 2 ∨ q = 3 by omega) with rfl | rfl | rfl | rfl <;> simp
theorem unmix_mix (r : Nat) (hr : r < 4) (x : Nat → Byte) : cmb unmixesL r (fun k => cmb mixesL k x) = x r := by
  refine cmb_two _ _ r x r hr fun k hk => ?_
  rcases (show r = 0 ∨ r = 1 ∨ r = 2 ∨ r = 3 by omega) with rfl | rfl | rfl | rfl <;> rcases (show k = 0 ∨ k = 1 ∨ k = 2 ∨ k = 3 by omega) with rfl | rfl | rfl | rfl <;> decide +kernel
theorem mix_unmix (r : Nat) (hr : r < 4) (x : Nat → Byte) : cmb mixesL r (fun k => cmb unmixesL k x) = x r := by
  refine cmb_two _ _ r x r hr fun k hk => ?_
  rcases (show r = 0 ∨ r = 1 ∨ r = 2 ∨ r = 3 by omega) with rfl | rfl | rfl | rfl <;> rcases (show k = 0 ∨ k = 1 ∨ k = 2 ∨ k = 3 by omega) with rfl | rfl | rfl | rfl <;> decide +kernel

/-- A column mixed back, its first rows put together. -/
def uncW (b : List Byte) (col : Nat) : Nat → BitVec 32
  | 0 => 0#32
  | r + 1 => uncW b col r ^^^ brg unmixesL r (nth b (r + 4 * col)) 4
def uncB (b : List Byte) (i : Nat) : Byte := byteW (uncW b (i / 4) 4) (i % 4)
def uncL (b : List Byte) : List Byte := tab 16 (uncB b)
theorem uncL_length (b : List Byte) : (uncL b).length = 16 := tab_length
theorem uncB_cmb (b : List Byte) (i : Nat) : uncB b i = cmb unmixesL (i % 4) fun k => nth b (k + 4 * (i / 4)) := by
  have hr : i % 4 < 4 := Nat.mod_lt _ (by omega)
  have h0 : byteW 0#32 (i % 4) = 0#8 := by simp [byteW]
  simp only [uncB, uncW, byteW_xor, byteW_brg _ _ _ _ hr, h0, BitVec.zero_xor, cmb]
theorem uncL_nth (b : List Byte) (i : Nat) (h : i < 16) : nth (uncL b) i = cmb unmixesL (i % 4) fun k => nth b (k + 4 * (i / 4)) := by rw [uncL, nth_tab h, uncB_cmb]
theorem rnd_cmb (b key : List Byte) (i : Nat) (h : i < 16) : nth (rnd b key) i = nth key i ^^^ cmb mixesL (i % 4) fun k => bxTo (nth b (shp k (i / 4))) := rnd_nth b key i h
/-- The block ahead of a round, and ahead of a last one. -/
def unr (b key : List Byte) : List Byte := unbL (uncL (bothL b key))
def unl (b key : List Byte) : List Byte := unbL (bothL b key)
theorem unr_length (b key : List Byte) : (unr b key).length = 16 := unbL_length _
theorem unl_length (b key : List Byte) : (unl b key).length = 16 := unbL_length _
theorem xor_back (k x : Byte) : (k ^^^ x) ^^^ k = x := by rw [BitVec.xor_comm k x, BitVec.xor_assoc, BitVec.xor_self, BitVec.xor_zero]
theorem cmb_congr (by_ : List Byte) (r : Nat) (x y : Nat → Byte) (h : ∀ k, k < 4 → x k = y k) : cmb by_ r x = cmb by_ r y := by
  unfold cmb; rw [h 0 (by omega), h 1 (by omega), h 2 (by omega), h 3 (by omega)]
theorem unr_rnd (b key : List Byte) (hb : b.length = 16) : unr (rnd b key) key = b := by
  apply nth_ext (by rw [unr_length, hb])
  intro j hj
  rw [unr_length] at hj
  have hu := ush_lt j hj
  have h4 : ush j % 4 < 4 := Nat.mod_lt _ (by omega)
  rw [unr, unbL_nth _ _ hj, uncL_nth _ _ hu]
  have : (cmb unmixesL (ush j % 4) fun k => nth (bothL (rnd b key) key) (k + 4 * (ush j / 4))) = cmb unmixesL (ush j % 4) fun k => cmb mixesL k fun q => bxTo (nth b (shp q (ush j / 4))) := by
    apply cmb_congr
    intro k hk
    rw [bothL_nth _ _ _ (by omega), rnd_cmb _ _ _ (by omega), xor_back, show (k + 4 * (ush j / 4)) % 4 = k from by omega, show (k + 4 * (ush j / 4)) / 4 = ush j / 4 from by omega]
  rw [this, unmix_mix _ h4, back_to, shp_ush j hj]
theorem rnd_unr (b key : List Byte) (hb : b.length = 16) : rnd (unr b key) key = b := by
  apply nth_ext (by rw [rnd_length, hb])
  intro i hi
  rw [rnd_length] at hi
  have h4 : i % 4 < 4 := Nat.mod_lt _ (by omega)
  rw [rnd_cmb _ _ _ hi]
  have : (cmb mixesL (i % 4) fun k => bxTo (nth (unr b key) (shp k (i / 4)))) = cmb mixesL (i % 4) fun k => cmb unmixesL k fun q => nth (bothL b key) (q + 4 * (i / 4)) := by
    apply cmb_congr
    intro k hk
    rw [unr, unbL_nth _ _ (shp_lt _ _ hk), to_back, ush_shp _ _ hk (by omega), uncL_nth _ _ (by omega), show (k + 4 * (i / 4)) % 4 = k from by omega, show (k + 4 * (i / 4)) / 4 = i / 4 from by omega]
  rw [this, mix_unmix _ h4, show i % 4 + 4 * (i / 4) = i from by omega, bothL_nth _ _ _ hi, BitVec.xor_comm (nth b i), ← BitVec.xor_assoc, BitVec.xor_self, BitVec.zero_xor]
theorem unl_last (b key : List Byte) (hb : b.length = 16) : unl (last b key) key = b := by
  apply nth_ext (by rw [unl_length, hb])
  intro j hj
  rw [unl_length] at hj
  have hu := ush_lt j hj
  rw [unl, unbL_nth _ _ hj, bothL_nth _ _ _ hu, last, nth_tab hu, lastB, BitVec.xor_assoc, BitVec.xor_self, BitVec.xor_zero, back_to, shp_ush j hj]
theorem last_unl (b key : List Byte) (hb : b.length = 16) : last (unl b key) key = b := by
  apply nth_ext (by rw [last_length, hb])
  intro i hi
  rw [last_length] at hi
  have h4 : i % 4 < 4 := Nat.mod_lt _ (by omega)
  rw [last, nth_tab hi, lastB, unl, unbL_nth _ _ (shp_lt _ _ h4), to_back, ush_shp _ _ h4 (by omega), show i % 4 + 4 * (i / 4) = i from by omega, bothL_nth _ _ _ hi, BitVec.xor_assoc, BitVec.xor_self, BitVec.xor_zero]

/-! ### Rounds, one after the other -/
theorem rnds_length (ks : List (List Byte)) : ∀ b : List Byte, b.length = 16 → (rnds b ks).length = 16 := by
  induction ks with
  | nil => intro b h; exact h
  | cons k ks ih => intro b _; exact ih _ (rnd_length b k)
theorem rnds_append (ks ls : List (List Byte)) : ∀ b : List Byte, rnds b (ks ++ ls) = rnds (rnds b ks) ls := by
  induction ks with
  | nil => intro b; rfl
  | cons k ks ih => intro b; exact ih _
theorem rnds_take (b : List Byte) (ks : List (List Byte)) (k : Nat) (h : k < ks.length) : rnds b (ks.take (k + 1)) = rnd (rnds b (ks.take k)) (ks.getD k []) := by
  rw [List.take_succ_eq_append_getElem h, rnds_append]
  simp [rnds, h]
theorem rnds_inj (ks : List (List Byte)) : ∀ a b : List Byte, a.length = 16 → b.length = 16 → rnds a ks = rnds b ks → a = b := by
  induction ks with
  | nil => intro a b _ _ h; exact h
  | cons k ks ih =>
    intro a b ha hb h
    have := ih _ _ (rnd_length a k) (rnd_length b k) h
    rw [← unr_rnd a k ha, this, unr_rnd b k hb]

end Go.Proofs.YtmgopjeaehmbfaaDoor
