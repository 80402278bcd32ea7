/-
  Layer 19, plain: half bytes, steps and rounds of two halves, on lists of bytes. No program in sight, no conditions.
-/
import Derived.Test.YtmgopjeaehmbfaaDoorCorep
namespace Go.Proofs.YtmgopjeaehmbfaaDoor
open Go Go.RowKit
set_option maxRecDepth 100000
set_option linter.unusedVariables false
set_option linter.unusedSimpArgs false

/-- A half byte. -/
def nibL (b : List Byte) (k : Nat) : Byte := (nth b (k / 2) >>> (4 * (1 - k % 2))) &&& 15#8
/-- So many half bytes, from a place on. -/
def halvesL (b : List Byte) (s n : Nat) : List Byte := tab n fun i => nibL b (s + i)
/-- Half bytes put together. -/
def joinN (hs : List Byte) : List Byte := tab ((hs.length + 1) / 2) fun q => ((nth hs (2 * q) &&& 15#8) <<< 4) ||| (nth hs (2 * q + 1) &&& 15#8)
theorem halvesL_length (b : List Byte) (s n : Nat) : (halvesL b s n).length = n := tab_length
theorem joinN_length (hs : List Byte) : (joinN hs).length = (hs.length + 1) / 2 := tab_length
theorem lo_nib : ∀ x : Byte, ∃ i : Fin 16, x &&& 15#8 = BitVec.ofNat 8 i.val := by decide +kernel
theorem nib_hi (x y : Byte) : ((((x &&& 15#8) <<< 4) ||| (y &&& 15#8)) >>> 4) &&& 15#8 = x &&& 15#8 := by
  have key : ∀ i j : Fin 16, (((BitVec.ofNat 8 i.val <<< 4) ||| BitVec.ofNat 8 j.val) >>> 4) &&& 15#8 = BitVec.ofNat 8 i.val := by decide +kernel
  obtain ⟨i, hi⟩ := lo_nib x
  obtain ⟨j, hj⟩ := lo_nib y
  rw [hi, hj]; exact key i j
theorem nib_lo (x y : Byte) : (((x &&& 15#8) <<< 4) ||| (y &&& 15#8)) &&& 15#8 = y &&& 15#8 := by
  have key : ∀ i j : Fin 16, ((BitVec.ofNat 8 i.val <<< 4) ||| BitVec.ofNat 8 j.val) &&& 15#8 = BitVec.ofNat 8 j.val := by decide +kernel
  obtain ⟨i, hi⟩ := lo_nib x
  obtain ⟨j, hj⟩ := lo_nib y
  rw [hi, hj]; exact key i j
theorem hi_bit : ∀ y : Byte, y &&& 128#8 = 0#8 ∨ y &&& 128#8 = 128#8 := by decide +kernel
theorem nib_byte : ∀ x : Byte, ((((x >>> 4) &&& 15#8) &&& 15#8) <<< 4) ||| ((x &&& 15#8) &&& 15#8) = x := by decide +kernel
theorem nib_two : ∀ x : Byte, (x &&& 15#8) &&& 15#8 = x &&& 15#8 := by decide +kernel
theorem nib_join (hs : List Byte) (i : Nat) (hi : i < hs.length) : nibL (joinN hs) i = nth hs i &&& 15#8 := by
  rw [nibL, joinN, nth_tab (by omega)]
  by_cases e : i % 2 = 0
  · rw [e, show 2 * (i / 2) = i by omega]
    exact nib_hi _ _
  · have e1 : i % 2 = 1 := by omega
    have e2 : 2 * (i / 2) + 1 = i := by omega
    rw [e1, e2, show 4 * (1 - 1) = 0 from rfl, BitVec.ushiftRight_zero]
    exact nib_lo _ _
theorem join_halves (m : List Byte) : joinN (halvesL m 0 (2 * m.length)) = m := nth_ext (by rw [joinN_length, halvesL_length]; omega) fun i hi => by
  rw [joinN_length, halvesL_length] at hi
  rw [joinN, halvesL_length, nth_tab hi, halvesL, nth_tab (by omega), nth_tab (by omega), nibL, nibL]
  rw [show (0 + 2 * i) / 2 = i by omega, show (0 + (2 * i + 1)) / 2 = i by omega, show (0 + 2 * i) % 2 = 0 by omega, show (0 + (2 * i + 1)) % 2 = 1 by omega]
  show (((nth m i >>> 4) &&& 15#8 &&& 15#8) <<< 4) ||| (((nth m i >>> 0) &&& 15#8) &&& 15#8) = _
  rw [BitVec.ushiftRight_zero]
  exact nib_byte _
/-- All half bytes. -/
def NibOk (l : List Byte) : Prop := ∀ i, nth l i &&& 15#8 = nth l i
theorem halvesL_ok (b : List Byte) (s n : Nat) : NibOk (halvesL b s n) := fun i => by
  by_cases h : i < n
  · rw [halvesL, nth_tab h, nibL, nib_two]
  · rw [nth_ge (by rw [halvesL_length]; omega)]; decide
theorem xorL_nth (a b : List Byte) (i : Nat) (h : i < (xorL a b).length) : nth (xorL a b) i = nth a i ^^^ nth b i := xorL_getD a b i h
theorem and_xor15 (a b : Byte) : (a ^^^ b) &&& 15#8 = (a &&& 15#8) ^^^ (b &&& 15#8) := by
  apply BitVec.eq_of_getLsbD_eq
  intro i _
  simp only [BitVec.getLsbD_and, BitVec.getLsbD_xor, Bool.and_xor_distrib_right]
theorem xorL_ok {a b : List Byte} (ha : NibOk a) (hb : NibOk b) : NibOk (xorL a b) := fun i => by
  by_cases h : i < (xorL a b).length
  · rw [xorL_nth a b i h, and_xor15, ha, hb]
  · rw [nth_ge (by omega)]; decide
theorem halves_add (m : List Byte) (n : Nat) : halvesL m 0 n ++ halvesL m n n = halvesL m 0 (2 * n) := nth_ext (by simp only [List.length_append, halvesL_length]; omega) fun i hi => by
  simp only [List.length_append, halvesL_length] at hi
  by_cases h : i < n
  · have e : nth (halvesL m 0 n ++ halvesL m n n) i = nth (halvesL m 0 n) i := by
      simp only [nth, List.getD_eq_getElem?_getD]
      rw [List.getElem?_append_left (by rw [halvesL_length]; exact h)]
    rw [e, halvesL, halvesL, nth_tab h, nth_tab (by omega)]
  · have e : nth (halvesL m 0 n ++ halvesL m n n) i = nth (halvesL m n n) (i - n) := by
      simp only [nth, List.getD_eq_getElem?_getD]
      rw [List.getElem?_append_right (by rw [halvesL_length]; omega), halvesL_length]
    rw [e, halvesL, halvesL, nth_tab (by omega), nth_tab (by omega)]
    congr 1; omega
theorem halves_all (m : List Byte) : joinN (halvesL m 0 m.length ++ halvesL m m.length m.length) = m := by rw [halves_add, join_halves]
theorem halves_left (l r : List Byte) (hl : NibOk l) (n : Nat) (ll : l.length = n) : halvesL (joinN (l ++ r)) 0 n = l := nth_ext (by rw [halvesL_length, ll]) fun i hi => by
  rw [halvesL_length] at hi
  rw [halvesL, nth_tab hi, Nat.zero_add, nib_join _ _ (by rw [List.length_append]; omega)]
  have e : nth (l ++ r) i = nth l i := by
    simp only [nth, List.getD_eq_getElem?_getD]
    rw [List.getElem?_append_left (by omega)]
  rw [e, hl]
theorem halves_right (l r : List Byte) (hr : NibOk r) (n : Nat) (ll : l.length = n) (lr : r.length = n) : halvesL (joinN (l ++ r)) n n = r := nth_ext (by rw [halvesL_length, lr]) fun i hi => by
  rw [halvesL_length] at hi
  rw [halvesL, nth_tab hi, nib_join _ _ (by rw [List.length_append]; omega)]
  have e : nth (l ++ r) (n + i) = nth r i := by
    simp only [nth, List.getD_eq_getElem?_getD]
    rw [List.getElem?_append_right (by omega), ll, Nat.add_sub_cancel_left]
  rw [e, hr]

/-- How many rounds. -/
def roundsN (n : Nat) : Nat := if n < 1 ∨ 31 < n then 0 else if n = 1 then 24 else if n = 2 then 16 else if n < 16 then 10 else 8
/-- A number as a block. -/
def cntB (n : Nat) : List Byte := tab 16 fun q => if 8 ≤ q then nth (putL (BitVec.ofNat 64 n) 8) (15 - q) else 0#8
theorem cntB_length (n : Nat) : (cntB n).length = 16 := tab_length
theorem cntL_both (h : List Byte) (n : Nat) : cntL h n = bothL h (cntB n) := nth_ext (by rw [cntL_length, bothL_length]) fun i hi => by
  rw [cntL_length] at hi
  rw [cntL, nth_tab hi, bothL_nth _ _ _ hi, cntB, nth_tab hi]
  split
  · rfl
  · simp
section
variable (F : Int → Int → List Byte → List Byte) (h : List Byte)
/-- What goes into a step. -/
def stepB (j : Nat) (half : List Byte) : List Byte := bothL (bothL (blk (joinN (half ++ [8#8]))) h) (cntB j)
/-- What a half brings to the other one. -/
def stepL (i : Int) (j : Nat) (half : List Byte) : List Byte := halvesL (F 0 i (stepB h j half)) 0 half.length
theorem stepL_length (i : Int) (j : Nat) (half : List Byte) : (stepL F h i j half).length = half.length := halvesL_length _ _ _
theorem stepL_ok (i : Int) (j : Nat) (half : List Byte) : NibOk (stepL F h i j half) := halvesL_ok _ _ _
/-- The bit that is turned, or is not. -/
def topB (m : List Byte) : List Byte := bothL (setN (blk m) 0 (nth (blk m) 0 ||| 128#8)) h
def flipL (m : List Byte) : List Byte := if m.length = 0 ∨ 16 ≤ m.length then m else setN m 0 (nth m 0 ^^^ (nth (F 0 3 (topB h m)) 0 &&& 128#8))
theorem flipL_length (m : List Byte) : (flipL F h m).length = m.length := by
  unfold flipL; split
  · rfl
  · exact List.length_set
theorem top_or : ∀ x y : Byte, (x ^^^ (y &&& 128#8)) ||| 128#8 = x ||| 128#8 := by
  have key : ∀ x : Byte, (x ^^^ 0#8) ||| 128#8 = x ||| 128#8 ∧ (x ^^^ 128#8) ||| 128#8 = x ||| 128#8 := by decide +kernel
  intro x y
  rcases hi_bit y with h | h
  · rw [h]; exact (key x).1
  · rw [h]; exact (key x).2
theorem flip_top (m : List Byte) (x : Byte) (h0 : m.length ≠ 0) : topB h (setN m 0 (nth m 0 ^^^ (x &&& 128#8))) = topB h m := by
  have e : setN (blk (setN m 0 (nth m 0 ^^^ (x &&& 128#8)))) 0 (nth (blk (setN m 0 (nth m 0 ^^^ (x &&& 128#8)))) 0 ||| 128#8) = setN (blk m) 0 (nth (blk m) 0 ||| 128#8) := nth_ext (by rw [setN_length, setN_length, blk_length, blk_length]) fun i hi => by
    rw [setN_length, blk_length] at hi
    rw [nth_set (by rw [blk_length]; exact hi), nth_set (by rw [blk_length]; exact hi)]
    by_cases e : 0 = i
    · rw [if_pos e, if_pos e, blk_nth _ _ (by omega), blk_nth _ _ (by omega), nth_set (by omega), if_pos rfl]
      exact top_or _ _
    · rw [if_neg e, if_neg e, blk_nth _ _ hi, blk_nth _ _ hi]
      by_cases hl : i < m.length
      · rw [nth_set hl, if_neg e]
      · rw [nth_ge (by rw [setN_length]; omega), nth_ge (by omega)]
  rw [topB, e]; rfl
/-- Flipped twice a message is what it was. -/
theorem flipL_twice (m : List Byte) : flipL F h (flipL F h m) = m := by
  by_cases c : m.length = 0 ∨ 16 ≤ m.length
  · have e : flipL F h m = m := if_pos c
    rw [e, e]
  · have hl := flipL_length F h m
    have e : flipL F h m = setN m 0 (nth m 0 ^^^ (nth (F 0 3 (topB h m)) 0 &&& 128#8)) := if_neg c
    conv => lhs; rw [flipL]
    rw [hl, if_neg c, e, flip_top h m _ (by omega)]
    generalize nth (F 0 3 (topB h m)) 0 &&& 128#8 = x
    refine nth_ext (by rw [setN_length, setN_length]) fun i hi => ?_
    rw [setN_length, setN_length] at hi
    rw [nth_set (by rw [setN_length]; exact hi), nth_set (by omega), if_pos rfl]
    by_cases e : 0 = i
    · subst e; rw [if_pos rfl, BitVec.xor_assoc, BitVec.xor_self, BitVec.xor_zero]
    · rw [if_neg e, nth_set (by omega), if_neg e]
theorem flip_bit : ∀ x y : Byte, x ^^^ (y &&& 128#8) = x ∨ x ^^^ (y &&& 128#8) = x ^^^ 128#8 := fun x y => by
  rcases hi_bit y with h | h
  · rw [h]; exact .inl (BitVec.xor_zero ..)
  · rw [h]; exact .inr rfl
/-- Flipped once it differs in its first bit alone. -/
theorem flipL_nth (m : List Byte) (i : Nat) (hi : i < m.length) (hne : nth (flipL F h m) i ≠ nth m i) : i = 0 ∧ nth (flipL F h m) i = nth m i ^^^ 128#8 ∧ m.length ≤ 15 := by
  by_cases c : m.length = 0 ∨ 16 ≤ m.length
  · have e : flipL F h m = m := if_pos c
    rw [e] at hne; exact absurd rfl hne
  · have e : flipL F h m = setN m 0 (nth m 0 ^^^ (nth (F 0 3 (topB h m)) 0 &&& 128#8)) := if_neg c
    rw [e, nth_set hi] at hne ⊢
    by_cases e0 : 0 = i
    · subst e0
      rw [if_pos rfl] at hne ⊢
      exact ⟨rfl, (flip_bit _ _).resolve_left hne, by omega⟩
    · rw [if_neg e0] at hne; exact absurd rfl hne
end

/-- A round of two halves; so many of them. -/
def rndT (S : Nat → List Byte → List Byte) (j : Nat) (p : List Byte × List Byte) : List Byte × List Byte := (p.2, xorL p.1 (S j p.2))
def rndsT (S : Nat → List Byte → List Byte) (J : Nat → Nat) (p : List Byte × List Byte) : Nat → List Byte × List Byte
  | 0 => p
  | k + 1 => rndT S (J k) (rndsT S J p k)
structure TwoN (n : Nat) (p : List Byte × List Byte) : Prop where
  l : p.1.length = n
  r : p.2.length = n
  lo : NibOk p.1
  ro : NibOk p.2
section
variable (S : Nat → List Byte → List Byte) (hS : ∀ j x, (S j x).length = x.length) (hO : ∀ j x, NibOk (S j x)) (J : Nat → Nat) (n : Nat) (p : List Byte × List Byte)
include hS hO in
theorem rndsT_two (hp : TwoN n p) : ∀ k, TwoN n (rndsT S J p k)
  | 0 => hp
  | k + 1 => by
    have h := rndsT_two hp k
    exact ⟨h.r, by show (xorL _ _).length = n; rw [xorL_length, hS, h.l, h.r, Nat.min_self], h.ro, xorL_ok h.lo (hO _ _)⟩
theorem rndsT_ext (I : Nat → Nat) : ∀ k, (∀ i, i < k → I i = J i) → rndsT S I p k = rndsT S J p k
  | 0, _ => rfl
  | k + 1, h => by rw [rndsT, rndsT, rndsT_ext I k fun i hi => h i (by omega), h k (by omega)]
def swapT (p : List Byte × List Byte) : List Byte × List Byte := (p.2, p.1)
include hS hO in
/-- Each round is undone. -/
theorem rndsT_back (R : Nat) (hp : TwoN n p) : ∀ k, k ≤ R → rndsT S (fun i => J (R - 1 - i)) (swapT (rndsT S J p R)) k = swapT (rndsT S J p (R - k))
  | 0, _ => rfl
  | k + 1, h => by
    have hq := rndsT_two S hS hO J n p hp (R - (k + 1))
    rw [rndsT, rndsT_back R hp k (by omega), show R - k = (R - (k + 1)) + 1 by omega, rndsT, show R - 1 - k = R - (k + 1) by omega]
    generalize rndsT S J p (R - (k + 1)) = q at *
    show (q.2, xorL (xorL q.1 (S _ q.2)) (S _ q.2)) = (q.2, q.1)
    rw [xor_twice _ _ (by rw [hS, hq.l, hq.r]; exact Nat.le_refl _)]
include hS hO in
theorem rndsT_all (R : Nat) (hp : TwoN n p) : rndsT S (fun i => J (R - 1 - i)) (swapT (rndsT S J p R)) R = swapT p := by
  rw [rndsT_back S hS hO J n p R hp R (Nat.le_refl _), Nat.sub_self]; rfl
end

/-- E's number for a length. -/
def numN (n : Nat) : Int := if n < 16 then 7 else 6
/-- The numbers of the rounds. -/
def ordN (back : Bool) (R k : Nat) : Nat := if back = true then R - 1 - k else k
section
variable (F : Int → Int → List Byte → List Byte) (h : List Byte)
def pairT (m : List Byte) : List Byte × List Byte := (halvesL m 0 m.length, halvesL m m.length m.length)
/-- The rounds of a message that may have been flipped. -/
def midT (back : Bool) (m : List Byte) : List Byte × List Byte := rndsT (stepL F h (numN m.length)) (ordN back (roundsN m.length)) (pairT m) (roundsN m.length)
/-- A short message, turned. -/
def tinyL (back : Bool) (m : List Byte) : List Byte :=
  if back = true then joinN ((midT F h true (flipL F h m)).2 ++ (midT F h true (flipL F h m)).1)
  else flipL F h (joinN ((midT F h false m).2 ++ (midT F h false m).1))
theorem pairT_two (m : List Byte) : TwoN m.length (pairT m) := ⟨halvesL_length _ _ _, halvesL_length _ _ _, halvesL_ok _ _ _, halvesL_ok _ _ _⟩
theorem midT_two (back : Bool) (m : List Byte) : TwoN m.length (midT F h back m) := rndsT_two _ (stepL_length F h _) (stepL_ok F h _) _ _ _ (pairT_two m) _
theorem join_two (p : List Byte × List Byte) (n : Nat) (hp : TwoN n p) : (joinN (p.2 ++ p.1)).length = n := by
  rw [joinN_length, List.length_append, hp.l, hp.r]; omega
theorem pair_join (p : List Byte × List Byte) (n : Nat) (hp : TwoN n p) : pairT (joinN (p.2 ++ p.1)) = swapT p := by
  rw [pairT, join_two p n hp, halves_left _ _ hp.ro n hp.r, halves_right _ _ hp.lo n hp.r hp.l]; rfl
theorem tinyL_length (back : Bool) (m : List Byte) : (tinyL F h back m).length = m.length := by
  unfold tinyL
  split
  · rw [join_two _ _ (midT_two F h true _), flipL_length]
  · rw [flipL_length, join_two _ _ (midT_two F h false _)]
/-- The rounds one way and the other way. -/
theorem midT_back (back : Bool) (m : List Byte) : midT F h (!back) (joinN ((midT F h back m).2 ++ (midT F h back m).1)) = swapT (pairT m) := by
  have h2 := midT_two F h back m
  have hl := join_two _ _ h2
  rw [midT, pair_join _ _ h2, hl, midT]
  rw [← rndsT_all (stepL F h (numN m.length)) (stepL_length F h _) (stepL_ok F h _) (ordN back (roundsN m.length)) m.length (pairT m) (roundsN m.length) (pairT_two m)]
  refine rndsT_ext _ _ _ _ _ fun i hi => ?_
  cases back
  · show roundsN m.length - 1 - i = roundsN m.length - 1 - i; rfl
  · show i = roundsN m.length - 1 - (roundsN m.length - 1 - i); omega
/-- What is enciphered is deciphered to what it was, whichever comes first. -/
theorem tinyL_back (back : Bool) (m : List Byte) : tinyL F h (!back) (tinyL F h back m) = m := by
  cases back with
  | false =>
    show joinN ((midT F h true (flipL F h (flipL F h (joinN ((midT F h false m).2 ++ (midT F h false m).1))))).2 ++ (midT F h true (flipL F h (flipL F h (joinN ((midT F h false m).2 ++ (midT F h false m).1))))).1) = m
    rw [flipL_twice, show true = !false from rfl, midT_back]
    exact halves_all m
  | true =>
    show flipL F h (joinN ((midT F h false (joinN ((midT F h true (flipL F h m)).2 ++ (midT F h true (flipL F h m)).1))).2 ++ (midT F h false (joinN ((midT F h true (flipL F h m)).2 ++ (midT F h true (flipL F h m)).1))).1)) = m
    rw [show false = !true from rfl, midT_back]
    show flipL F h (joinN (halvesL _ 0 _ ++ halvesL _ _ _)) = m
    rw [halves_all, flipL_twice]
theorem tinyL_inj (back : Bool) (m k : List Byte) : (tinyL F h back m == tinyL F h back k) = (m == k) := by
  rw [Bool.eq_iff_iff, beq_iff_eq, beq_iff_eq]
  constructor
  · intro e
    have := congrArg (tinyL F h (!back)) e
    rwa [tinyL_back, tinyL_back] at this
  · rintro rfl; rfl
end

end Go.Proofs.YtmgopjeaehmbfaaDoor
