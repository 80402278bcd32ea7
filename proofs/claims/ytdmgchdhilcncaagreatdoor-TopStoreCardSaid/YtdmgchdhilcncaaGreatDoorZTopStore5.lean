/-
  Layer 10, plain: the field of 2^128 elements by the highest bit first, on lists of sixteen bytes: doubled, so many times, products, doubled so often. No program in sight, no conditions.
  Layer 10, plain: the document's way, polynomials coefficient by coefficient: products by x^128 = x^7 + x^2 + x + 1 are sums of doubles. No program in sight, no conditions.
  Layer 2, plain: the field of 256 elements, its powers and boxes. No program in sight, no conditions.
  Layer 3, plain: tables of columns, rounds. No program in sight, no conditions.
  Layer 3, plain: the way back; rounds, one by one. No program in sight, no conditions.
-/
import Derived.Test.YtdmgchdhilcncaaGreatDoorZTopStore0
import Derived.Test.YtdmgchdhilcncaaGreatDoorZTopStore4
import Derived.Test.YtdmgchdhilcncaaGreatDoorZTopStore3
set_option linter.unusedSimpArgs false
set_option linter.unusedVariables false
namespace Go.Proofs.YtdmgchdhilcncaaGreatDoor
open Go
theorem both_zero (a : List Byte) (h : a.length = 16) : bothL a (zer 16) = a := nth_ext (by rw [bothL_length, h]) fun i hi => by
 rw [bothL_length] at hi
 rw [bothL_nth _ _ _ hi, zer, nth_tab hi]; simp
theorem both_comm (a b : List Byte) : bothL a b = bothL b a := nth_ext (by simp [bothL_length]) fun i hi => by
 rw [bothL_length] at hi
 rw [bothL_nth _ _ _ hi, bothL_nth _ _ _ hi, BitVec.xor_comm]
theorem both_assoc (a b c : List Byte) : bothL (bothL a b) c = bothL a (bothL b c) := nth_ext (by simp [bothL_length]) fun i hi => by
 rw [bothL_length] at hi
 rw [bothL_nth _ _ _ hi, bothL_nth _ _ _ hi, bothL_nth _ _ _ hi, bothL_nth _ _ _ hi, BitVec.xor_assoc]
theorem zero_both (a : List Byte) (h : a.length = 16) : bothL (zer 16) a = a := by rw [both_comm, both_zero a h]
theorem both_self (a : List Byte) : bothL a a = zer 16 := nth_ext (by rw [bothL_length, zer_length]) fun i hi => by
 rw [bothL_length] at hi
 rw [bothL_nth _ _ _ hi, zer, nth_tab hi]; simp
theorem both_four (a b c d : List Byte) : bothL (bothL a b) (bothL c d) = bothL (bothL a c) (bothL b d) := by
 rw [both_assoc, both_assoc, ← both_assoc b c d, both_comm b c, both_assoc c b d]
def dblF (a : List Byte) (i : Nat) : Byte := if i < 15 then (nth a i <<< 1) ||| (nth a (i + 1) >>> 7) else (nth a 15 <<< 1) ^^^ ((nth a 0 >>> 7) * 135#8)
def dblL (a : List Byte) : List Byte := tab 16 (dblF a)
theorem dblL_length (a : List Byte) : (dblL a).length = 16 := tab_length
def dblN (a : List Byte) : Nat → List Byte
 | 0 => a
 | n + 1 => dblL (dblN a n)
theorem dblN_length (a : List Byte) (h : a.length = 16) : ∀ n, (dblN a n).length = 16
 | 0 => h
 | _ + 1 => dblL_length _
theorem dblN_add (a : List Byte) (m : Nat) : ∀ n, dblN a (m + n) = dblN (dblN a m) n
 | 0 => rfl
 | n + 1 => by rw [← Nat.add_assoc, dblN, dblN_add a m n]; rfl
def bitA (a : List Byte) (i : Nat) : Bool := (nth a (15 - i / 8)).getLsbD (i % 8)
theorem bits_ext {a b : List Byte} (ha : a.length = 16) (hb : b.length = 16) (h : ∀ i, i < 128 → bitA a i = bitA b i) : a = b := nth_ext (by rw [ha, hb]) fun k hk => by
 rw [ha] at hk
 apply BitVec.eq_of_getLsbD_eq
 intro r hr
 have := h (8 * (15 - k) + r) (by omega)
 unfold bitA at this
 rwa [show (8 * (15 - k) + r) / 8 = 15 - k from by omega, show (8 * (15 - k) + r) % 8 = r from by omega, show 15 - (15 - k) = k from by omega] at this
theorem bit_both (a b : List Byte) (i : Nat) : bitA (bothL a b) i = (bitA a i ^^ bitA b i) := by
 unfold bitA; rw [bothL_nth _ _ _ (by omega), BitVec.getLsbD_xor]
theorem bit_zer (i : Nat) : bitA (zer 16) i = false := by unfold bitA; rw [zer, nth_tab (by omega)]; simp
def spec (i : Nat) : Bool := i == 0 || i == 1 || i == 2 || i == 7
theorem spec_bits : ∀ (b : Byte) (r : Fin 8), ((b >>> 7) * 135#8).getLsbD r.val = (b.getLsbD 7 && spec r.val) := by decide +kernel
theorem spec_at (b : Byte) (r : Nat) (hr : r < 8) : ((b >>> 7) * 135#8).getLsbD r = (b.getLsbD 7 && spec r) := spec_bits b ⟨r, hr⟩
theorem bit_dbl (a : List Byte) (i : Nat) (hi : i < 128) : bitA (dblL a) i = ((decide (i ≠ 0) && bitA a (i - 1)) ^^ (bitA a 127 && spec i)) := by
 unfold bitA
 rw [dblL, nth_tab (by omega), dblF]
 by_cases hq : i < 8
 · rw [if_neg (by omega), show i % 8 = i from by omega, BitVec.getLsbD_xor, spec_at _ i hq, BitVec.getLsbD_shiftLeft]
   rcases Nat.eq_zero_or_pos i with rfl | h0
   · simp
   · rw [show (i - 1) / 8 = 0 from by omega, show (i - 1) % 8 = i - 1 from by omega]
     have h1 : i ≠ 0 := by omega
     have h2 : ¬ i < 1 := by omega
     simp [h1, h2, hq]
 · rw [if_pos (by omega), BitVec.getLsbD_or, BitVec.getLsbD_shiftLeft, BitVec.getLsbD_ushiftRight]
   have hs : spec i = false := by unfold spec; simp; omega
   have h1 : i ≠ 0 := by omega
   rw [hs]
   rcases Nat.eq_zero_or_pos (i % 8) with h0 | h0
   · rw [h0, show (i - 1) / 8 = i / 8 - 1 from by omega, show (i - 1) % 8 = 7 from by omega, show 15 - (i / 8 - 1) = 15 - i / 8 + 1 from by omega]
     simp [h1]
   · rw [show (i - 1) / 8 = i / 8 from by omega, show (i - 1) % 8 = i % 8 - 1 from by omega]
     have h2 : ¬ i % 8 < 1 := by omega
     have h3 : i % 8 < 8 := by omega
     have h4 : (nth a (15 - i / 8 + 1)).getLsbD (7 + i % 8) = false := BitVec.getLsbD_of_ge _ _ (by omega)
     have h5 : i % 8 ≠ 0 := by omega
     simp [h1, h2, h3, h4, h5]
theorem dbl_both (a b : List Byte) : dblL (bothL a b) = bothL (dblL a) (dblL b) := bits_ext (dblL_length _) (bothL_length _ _) fun i hi => by
 rw [bit_both, bit_dbl _ _ hi, bit_dbl _ _ hi, bit_dbl _ _ hi, bit_both, bit_both]
 cases decide (i ≠ 0) <;> cases bitA a (i - 1) <;> cases bitA b (i - 1) <;> cases bitA a 127 <;> cases bitA b 127 <;> cases spec i <;> rfl
theorem dblN_both (a b : List Byte) : ∀ n, dblN (bothL a b) n = bothL (dblN a n) (dblN b n)
 | 0 => rfl
 | n + 1 => by rw [dblN, dblN_both a b n, dbl_both]; rfl
theorem dbl_zer : dblL (zer 16) = zer 16 := bits_ext (dblL_length _) zer_length fun i hi => by rw [bit_dbl _ _ hi, bit_zer, bit_zer, bit_zer]; simp
theorem dblN_zer : ∀ n, dblN (zer 16) n = zer 16
 | 0 => rfl
 | n + 1 => by rw [dblN, dblN_zer n, dbl_zer]
def msum (c : Nat → Bool) (a : List Byte) : Nat → List Byte
 | 0 => zer 16
 | k + 1 => if c k = true then bothL (msum c a k) (dblN a k) else msum c a k
theorem msum_length (c : Nat → Bool) (a : List Byte) : ∀ k, (msum c a k).length = 16
 | 0 => zer_length
 | k + 1 => by rw [msum]; split; exact bothL_length _ _; exact msum_length c a k
theorem msum_congr {c d : Nat → Bool} (a : List Byte) : ∀ k, (∀ i, i < k → c i = d i) → msum c a k = msum d a k
 | 0, _ => rfl
 | k + 1, h => by rw [msum, msum, h k (by omega), msum_congr a k fun i hi => h i (by omega)]
theorem msum_both (c : Nat → Bool) (a b : List Byte) : ∀ k, msum c (bothL a b) k = bothL (msum c a k) (msum c b k)
 | 0 => (both_zero (zer 16) zer_length).symm
 | k + 1 => by
   have ih := msum_both c a b k
   by_cases h : c k = true
   · simp only [msum, if_pos h]
     rw [ih, dblN_both, both_four]
   · simp only [msum, if_neg h]
     exact ih
theorem msum_xor (c d : Nat → Bool) (a : List Byte) (ha : a.length = 16) : ∀ k, msum (fun i => c i ^^ d i) a k = bothL (msum c a k) (msum d a k)
 | 0 => (both_zero (zer 16) zer_length).symm
 | k + 1 => by
   rw [msum, msum, msum, msum_xor c d a ha k]
   cases c k <;> cases d k <;> simp only [Bool.xor_false, Bool.xor_true, Bool.not_true, Bool.not_false, if_true, if_false, Bool.false_eq_true]
   · rw [both_assoc]
   · rw [both_assoc, both_comm (msum d a k), ← both_assoc]
   · rw [both_four, both_self, both_zero _ (bothL_length _ _)]
theorem msum_none (c : Nat → Bool) (a : List Byte) (n : Nat) (h : ∀ i, n ≤ i → c i = false) : ∀ k, msum c a (n + k) = msum c a n
 | 0 => rfl
 | k + 1 => by rw [← Nat.add_assoc, msum, h _ (by omega), if_neg (by decide), msum_none c a n h k]
theorem msum_none' (c : Nat → Bool) (a : List Byte) {n m : Nat} (hm : n ≤ m) (h : ∀ i, n ≤ i → i < m → c i = false) : msum c a m = msum c a n := by
 have e : msum c a m = msum (fun i => c i && decide (i < n)) a m := msum_congr a m fun i hi => by
   by_cases hn : i < n
   · simp [hn]
   · simp [hn, h i (by omega) hi]
 rw [e, show m = n + (m - n) from by omega, msum_none _ _ _ (fun i hi => by simp; omega)]
 exact msum_congr a n fun i hi => by simp [hi]
theorem msum_dblN (c : Nat → Bool) (a : List Byte) (m : Nat) : ∀ k, msum c (dblN a m) k = dblN (msum c a k) m
 | 0 => by rw [msum, msum, dblN_zer]
 | k + 1 => by
   have ih := msum_dblN c a m k
   by_cases h : c k = true
   · simp only [msum, if_pos h]
     rw [ih, dblN_both, ← dblN_add, ← dblN_add, Nat.add_comm]
   · simp only [msum, if_neg h]
     exact ih
theorem msum_shift (c : Nat → Bool) (a : List Byte) : ∀ k, msum (fun i => decide (i ≠ 0) && c (i - 1)) a (k + 1) = dblL (msum c a k)
 | 0 => by rw [msum, msum, msum]; simp [dbl_zer]
 | k + 1 => by
   have ih := msum_shift c a k
   have e : (decide (k + 1 ≠ 0) && c (k + 1 - 1)) = c k := by simp
   rw [msum, e, ih]
   by_cases h : c k = true
   · rw [if_pos h, msum, if_pos h, dbl_both]; rfl
   · rw [if_neg h, msum, if_neg h]
def oneL : List Byte := tab 16 fun i => if i = 15 then 1#8 else 0#8
theorem oneL_length : oneL.length = 16 := tab_length
theorem bit_one (j : Nat) (hj : j < 128) : bitA oneL j = decide (j = 0) := by
 unfold bitA
 rw [oneL, nth_tab (by omega)]
 by_cases h : j < 8
 · rw [if_pos (by omega), show j % 8 = j from by omega, BitVec.getLsbD_one]; simp
 · rw [if_neg (by omega)]; simp; omega
theorem bit_oneN : ∀ k, k < 128 → ∀ j, j < 128 → bitA (dblN oneL k) j = decide (j = k)
 | 0, _, j, hj => bit_one j hj
 | k + 1, hk, j, hj => by
   rw [dblN, bit_dbl _ _ hj, bit_oneN k (by omega) 127 (by omega), decide_eq_false (show ¬ 127 = k by omega)]
   rcases Nat.eq_zero_or_pos j with rfl | h
   · simp
   · rw [bit_oneN k (by omega) (j - 1) (by omega)]
     by_cases e : j = k + 1
     · subst e; simp
     · rw [decide_eq_false e, decide_eq_false (show ¬ j - 1 = k by omega)]; simp
theorem bit_msum (c : Nat → Bool) : ∀ k, k ≤ 128 → ∀ j, j < 128 → bitA (msum c oneL k) j = (decide (j < k) && c j)
 | 0, _, j, _ => by rw [msum, bit_zer]; simp
 | k + 1, hk, j, hj => by
   rw [msum]
   by_cases hc : c k = true
   · rw [if_pos hc, bit_both, bit_msum c k (by omega) j hj, bit_oneN k (by omega) j hj]
     rcases Nat.lt_trichotomy j k with h | h | h
     · simp [h, show j < k + 1 by omega, show j ≠ k by omega]
     · subst h; simp [hc]
     · simp [show ¬ j < k by omega, show ¬ j < k + 1 by omega, show j ≠ k by omega]
   · rw [if_neg hc, bit_msum c k (by omega) j hj]
     by_cases h : j = k
     · subst h; simp [hc]
     · by_cases h2 : j < k
       · simp [h2, show j < k + 1 by omega]
       · simp [h2, show ¬ j < k + 1 by omega]
theorem ev_bits (a : List Byte) (h : a.length = 16) : msum (bitA a) oneL 128 = a := bits_ext (msum_length _ _ _) h fun i hi => by rw [bit_msum _ 128 (Nat.le_refl _) i hi]; simp [hi]
def topL : List Byte := msum spec oneL 128
theorem topL_length : topL.length = 16 := msum_length _ _ _
theorem one_128 : dblN oneL 128 = topL := bits_ext (dblN_length _ oneL_length _) topL_length fun i hi => by
 rw [topL, bit_msum _ 128 (Nat.le_refl _) i hi, show (128 : Nat) = 127 + 1 from rfl, dblN, bit_dbl _ _ hi, bit_oneN 127 (by omega) 127 (by omega), bit_oneN 127 (by omega) (i - 1) (by omega), decide_eq_false (show ¬ i - 1 = 127 by omega)]
 simp [hi]
theorem dbl_128 (a : List Byte) (h : a.length = 16) : dblN a 128 = msum spec a 128 := by
 have e : dblN (msum (bitA a) oneL 128) 128 = msum spec (msum (bitA a) oneL 128) 128 := by
   have swap : ∀ k n, msum spec (msum (bitA a) oneL n) k = msum (bitA a) (msum spec oneL k) n := by
     intro k n
     induction k with
     | zero =>
       rw [msum, msum]
       induction n with
       | zero => rfl
       | succ n ih => rw [msum, dblN_zer, both_zero _ (msum_length _ _ _), ite_self]; exact ih
     | succ k ih =>
       rw [msum, msum, ih]
       by_cases h : spec k = true
       · rw [if_pos h, if_pos h, msum_both, msum_dblN]
       · rw [if_neg h, if_neg h]
   rw [swap, ← msum_dblN, one_128, topL]
 rwa [ev_bits a h] at e
def prodL (a b : List Byte) : List Byte := msum (bitA b) a 128
theorem prodL_length (a b : List Byte) : (prodL a b).length = 16 := msum_length _ _ _
theorem prod_dbl (a b : List Byte) (ha : a.length = 16) : prodL a (dblL b) = dblL (prodL a b) := by
 have e1 : prodL a (dblL b) = msum (fun i => (decide (i ≠ 0) && bitA b (i - 1)) ^^ (bitA b 127 && spec i)) a 128 := msum_congr a 128 fun i hi => bit_dbl b i hi
 have e2 : msum (bitA b) a (127 + 1) = if bitA b 127 = true then bothL (msum (bitA b) a 127) (dblN a 127) else msum (bitA b) a 127 := by rw [msum]
 have e3 := dbl_128 a ha
 rw [show (128 : Nat) = 127 + 1 from rfl, dblN] at e3
 rw [e1, msum_xor _ _ _ ha, prodL, show (128 : Nat) = 127 + 1 from rfl, msum_shift (bitA b) a 127, e2]
 by_cases h : bitA b 127 = true
 · rw [if_pos h, h, dbl_both]
   congr 1
   simp only [Bool.true_and]
   exact e3.symm
 · have h' : bitA b 127 = false := by cases hb : bitA b 127 <;> simp_all
   rw [if_neg h, h']
   simp only [Bool.false_and]
   rw [show msum (fun _ => false) a (127 + 1) = zer 16 from msum_none' _ a (Nat.zero_le _) fun _ _ _ => rfl, both_zero _ (dblL_length _)]
theorem prod_one (a : List Byte) (ha : a.length = 16) : prodL a oneL = a := by
 rw [prodL, show msum (bitA oneL) a 128 = msum (bitA oneL) a 1 from msum_none' _ a (by omega) fun i h1 h2 => by rw [bit_one i h2]; simp; omega, msum, msum, bit_one 0 (by omega)]
 simp [dblN, zero_both a ha]
theorem prod_pow (a : List Byte) (ha : a.length = 16) : ∀ m, prodL a (dblN oneL m) = dblN a m
 | 0 => prod_one a ha
 | m + 1 => by rw [dblN, prod_dbl _ _ ha, prod_pow a ha m]; rfl
def mulL (n : BitVec 64) (a : List Byte) : List Byte := msum n.getLsbD a 64
theorem mulL_length (n : BitVec 64) (a : List Byte) : (mulL n a).length = 16 := msum_length _ _ _
theorem mul_zero (a : List Byte) : mulL 0#64 a = zer 16 := by
 rw [mulL, msum_none' (n := 0) _ a (Nat.zero_le _) fun i _ _ => by simp]; rfl
theorem mul_end (n : BitVec 64) (a : List Byte) (k : Nat) (hk : k ≤ 64) (h : n >>> k = 0#64) : msum n.getLsbD a k = mulL n a := by
 rw [mulL, msum_none' _ a hk]
 intro i h1 h2
 have := congrArg (fun z => z.getLsbD (i - k)) h
 simp only [BitVec.getLsbD_ushiftRight] at this
 rw [show k + (i - k) = i from by omega] at this
 simpa using this
def bb (c : Bool) : Byte := if c = true then 1#8 else 0#8
def pc (p : List Byte) (i : Nat) : Bool := (nth p i).getLsbD 0
def isP (p : List Byte) : Prop := p.length = 256 ∧ ∀ i, nth p i = bb (pc p i)
def evP (l : List Byte) : List Byte := msum (pc l) oneL 256
def cmK (p out : List Byte) (i : Nat) : Nat → List Byte
 | 0 => out
 | k + 1 => setN (cmK p out i k) (i + k) (nth (cmK p out i k) (i + k) ^^^ nth p k)
def cmI (p q : List Byte) : Nat → List Byte
 | 0 => zer 256
 | i + 1 => if nth q i = 0#8 then cmI p q i else cmK p (cmI p q i) i 128
def put1 (l : List Byte) (i : Nat) : List Byte := setN l i (nth l i ^^^ 1#8)
def rd1 (l : List Byte) (i a b c : Nat) : List Byte :=
 if nth l i = 1#8 then put1 (put1 (put1 (put1 (setN l i 0#8) (i - 128 + a)) (i - 128 + b)) (i - 128 + c)) (i - 128) else l
def rdF (l : List Byte) (a b c : Nat) : Nat → List Byte
 | 0 => l
 | j + 1 => rd1 (rdF l a b c j) (254 - j) a b c
def restL (p q : List Byte) (a b c : Nat) : List Byte := rdF (cmI p q 128) a b c 127
def hiF (p : List Byte) : Nat → List Byte
 | 0 => zer 16
 | k + 1 => setN (hiF p k) (15 - k / 8) (nth (hiF p k) (15 - k / 8) + (nth p k <<< (k % 8)))
def highF (a : List Byte) (k : Nat) : Byte := (nth a (15 - k / 8) >>> (k % 8)) % 2#8
def highL (a : List Byte) : List Byte := part 256 128 (highF a) fun _ => 0
def numF (n : BitVec 64) (k : Nat) : Byte := ((n >>> k) % 2#64).setWidth 8
def numL (n : BitVec 64) : List Byte := part 256 64 (numF n) fun _ => 0
def dbl (a : Byte) : Byte := (a <<< 1) ^^^ ((a >>> 7) * 27#8)
def tmsG : Nat → Byte → Byte → Byte
 | 0, _, _ => 0#8
 | n + 1, a, b => (a * (b &&& 1#8)) ^^^ tmsG n (dbl a) (b >>> 1)
def tms (a b : Byte) : Byte := tmsG 8 a b
theorem tmsG_zero (n : Nat) : ∀ a : Byte, tmsG n a 0#8 = 0#8 := by
 induction n with
 | zero => intros; rfl
 | succ n ih => intro a; rw [tmsG]; simp [ih]
def tmsF : Nat → Byte → Byte → Byte → Byte
 | 0, _, _, s => s
 | n + 1, a, b, s => tmsF n (dbl a) (b >>> 1) (s ^^^ (a * (b &&& 1#8)))
theorem tmsF_tmsG (n : Nat) : ∀ a b s : Byte, tmsF n a b s = s ^^^ tmsG n a b := by
 induction n with
 | zero => intros; simp [tmsF, tmsG]
 | succ n ih => intro a b s; rw [tmsF, ih, tmsG, BitVec.xor_assoc]
theorem tmsF_tms (a b : Byte) : tmsF 8 a b 0#8 = tms a b := by rw [tmsF_tmsG]; simp [tms]
theorem tmsF_end (n : Nat) (a s : Byte) : tmsF n a 0#8 s = s := by rw [tmsF_tmsG, tmsG_zero]; simp
/-! ### Powers -/
def gpow (a : Byte) : Nat → Byte
 | 0 => 1#8
 | n + 1 => tms (gpow a n) a
def pwS : Nat → Byte → Byte → Nat → Byte
 | 0, out, _, _ => out
 | f + 1, out, a, n => pwS f (if n % 2 = 1 then tms out a else out) (tms a a) (n / 2)
def inv (a : Byte) : Byte := pwS 8 1#8 a 254
/-! ### The reference's product: polynomials, and their rest -/
def sel (c : Bool) (x : BitVec 16) : BitVec 16 := if c then x else 0#16
def rp (a b : Byte) : Nat → BitVec 16
 | 0 => 0#16
 | k + 1 => rp a b k ^^^ sel (b.getLsbD k) (a.setWidth 16 <<< k)
def rr (p : BitVec 16) : Nat → BitVec 16
 | 0 => p
 | j + 1 => rr p j ^^^ sel ((rr p j).getLsbD (14 - j)) (283#16 <<< (6 - j))
def rtms (a b : Byte) : Byte := (rr (rp a b 8) 7).setWidth 8
/-! ### Boxes -/
def rotl8 (x : Byte) (k : Nat) : Byte := (x <<< k) ||| (x >>> (8 - k))
def boxF (i : Byte) : Nat → Byte
 | 0 => 99#8
 | k + 1 => boxF i k ^^^ rotl8 i k
def sbox (a : Byte) : Byte := boxF (inv a) 5
def pws : Nat → Byte
 | 0 => 1#8
 | k + 1 => pws k ^^^ dbl (pws k)
def putT (l : List Byte) (a b : Byte) : List Byte := setN (setN l a.toNat b) (256 + b.toNat) a
def tabT : Nat → List Byte
 | 0 => putT (zer 512) 0#8 (boxF 0#8 5)
 | k + 1 => putT (tabT k) (pws k) (boxF (pws ((255 - k) % 255)) 5)
theorem putT_length (l : List Byte) (a b : Byte) : (putT l a b).length = l.length := by simp [putT]
theorem tabT_length (k : Nat) : (tabT k).length = 512 := by
 induction k with
 | zero => simp [tabT, putT_length]
 | succ k ih => rw [tabT, putT_length, ih]
def tabs : List Byte := tabT 255
theorem tabs_length : tabs.length = 512 := tabT_length 255
def bxTo (a : Byte) : Byte := nth tabs a.toNat
def bxBack (a : Byte) : Byte := nth tabs (256 + a.toNat)
/-! ### The table, written out -/
def tabsL : List Byte := [
 99#8, 124#8, 119#8, 123#8, 242#8, 107#8, 111#8, 197#8, 48#8, 1#8, 103#8, 43#8, 254#8, 215#8, 171#8, 118#8, 202#8, 130#8, 201#8, 125#8, 250#8, 89#8, 71#8, 240#8, 173#8, 212#8, 162#8, 175#8, 156#8, 164#8, 114#8, 192#8,
 183#8, 253#8, 147#8, 38#8, 54#8, 63#8, 247#8, 204#8, 52#8, 165#8, 229#8, 241#8, 113#8, 216#8, 49#8, 21#8, 4#8, 199#8, 35#8, 195#8, 24#8, 150#8, 5#8, 154#8, 7#8, 18#8, 128#8, 226#8, 235#8, 39#8, 178#8, 117#8,
 9#8, 131#8, 44#8, 26#8, 27#8, 110#8, 90#8, 160#8, 82#8, 59#8, 214#8, 179#8, 41#8, 227#8, 47#8, 132#8, 83#8, 209#8, 0#8, 237#8, 32#8, 252#8, 177#8, 91#8, 106#8, 203#8, 190#8, 57#8, 74#8, 76#8, 88#8, 207#8,
 208#8, 239#8, 170#8, 251#8, 67#8, 77#8, 51#8, 133#8, 69#8, 249#8, 2#8, 127#8, 80#8, 60#8, 159#8, 168#8, 81#8, 163#8, 64#8, 143#8, 146#8, 157#8, 56#8, 245#8, 188#8, 182#8, 218#8, 33#8, 16#8, 255#8, 243#8, 210#8,
 205#8, 12#8, 19#8, 236#8, 95#8, 151#8, 68#8, 23#8, 196#8, 167#8, 126#8, 61#8, 100#8, 93#8, 25#8, 115#8, 96#8, 129#8, 79#8, 220#8, 34#8, 42#8, 144#8, 136#8, 70#8, 238#8, 184#8, 20#8, 222#8, 94#8, 11#8, 219#8,
 224#8, 50#8, 58#8, 10#8, 73#8, 6#8, 36#8, 92#8, 194#8, 211#8, 172#8, 98#8, 145#8, 149#8, 228#8, 121#8, 231#8, 200#8, 55#8, 109#8, 141#8, 213#8, 78#8, 169#8, 108#8, 86#8, 244#8, 234#8, 101#8, 122#8, 174#8, 8#8,
 186#8, 120#8, 37#8, 46#8, 28#8, 166#8, 180#8, 198#8, 232#8, 221#8, 116#8, 31#8, 75#8, 189#8, 139#8, 138#8, 112#8, 62#8, 181#8, 102#8, 72#8, 3#8, 246#8, 14#8, 97#8, 53#8, 87#8, 185#8, 134#8, 193#8, 29#8, 158#8,
 225#8, 248#8, 152#8, 17#8, 105#8, 217#8, 142#8, 148#8, 155#8, 30#8, 135#8, 233#8, 206#8, 85#8, 40#8, 223#8, 140#8, 161#8, 137#8, 13#8, 191#8, 230#8, 66#8, 104#8, 65#8, 153#8, 45#8, 15#8, 176#8, 84#8, 187#8, 22#8,
 82#8, 9#8, 106#8, 213#8, 48#8, 54#8, 165#8, 56#8, 191#8, 64#8, 163#8, 158#8, 129#8, 243#8, 215#8, 251#8, 124#8, 227#8, 57#8, 130#8, 155#8, 47#8, 255#8, 135#8, 52#8, 142#8, 67#8, 68#8, 196#8, 222#8, 233#8, 203#8,
 84#8, 123#8, 148#8, 50#8, 166#8, 194#8, 35#8, 61#8, 238#8, 76#8, 149#8, 11#8, 66#8, 250#8, 195#8, 78#8, 8#8, 46#8, 161#8, 102#8, 40#8, 217#8, 36#8, 178#8, 118#8, 91#8, 162#8, 73#8, 109#8, 139#8, 209#8, 37#8,
 114#8, 248#8, 246#8, 100#8, 134#8, 104#8, 152#8, 22#8, 212#8, 164#8, 92#8, 204#8, 93#8, 101#8, 182#8, 146#8, 108#8, 112#8, 72#8, 80#8, 253#8, 237#8, 185#8, 218#8, 94#8, 21#8, 70#8, 87#8, 167#8, 141#8, 157#8, 132#8,
 144#8, 216#8, 171#8, 0#8, 140#8, 188#8, 211#8, 10#8, 247#8, 228#8, 88#8, 5#8, 184#8, 179#8, 69#8, 6#8, 208#8, 44#8, 30#8, 143#8, 202#8, 63#8, 15#8, 2#8, 193#8, 175#8, 189#8, 3#8, 1#8, 19#8, 138#8, 107#8,
 58#8, 145#8, 17#8, 65#8, 79#8, 103#8, 220#8, 234#8, 151#8, 242#8, 207#8, 206#8, 240#8, 180#8, 230#8, 115#8, 150#8, 172#8, 116#8, 34#8, 231#8, 173#8, 53#8, 133#8, 226#8, 249#8, 55#8, 232#8, 28#8, 117#8, 223#8, 110#8,
 71#8, 241#8, 26#8, 113#8, 29#8, 41#8, 197#8, 137#8, 111#8, 183#8, 98#8, 14#8, 170#8, 24#8, 190#8, 27#8, 252#8, 86#8, 62#8, 75#8, 198#8, 210#8, 121#8, 32#8, 154#8, 219#8, 192#8, 254#8, 120#8, 205#8, 90#8, 244#8,
 31#8, 221#8, 168#8, 51#8, 136#8, 7#8, 199#8, 49#8, 177#8, 18#8, 16#8, 89#8, 39#8, 128#8, 236#8, 95#8, 96#8, 81#8, 127#8, 169#8, 25#8, 181#8, 74#8, 13#8, 45#8, 229#8, 122#8, 159#8, 147#8, 201#8, 156#8, 239#8,
 160#8, 224#8, 59#8, 77#8, 174#8, 42#8, 245#8, 176#8, 200#8, 235#8, 187#8, 60#8, 131#8, 83#8, 153#8, 97#8, 23#8, 43#8, 4#8, 126#8, 186#8, 119#8, 214#8, 38#8, 225#8, 105#8, 20#8, 99#8, 85#8, 33#8, 12#8, 125#8]
def rbit (a : Byte) (k : Nat) : Byte := a >>> (k % 8) % 2#8
def rbx (i : Byte) : Nat → Byte
 | 0 => 0#8
 | k + 1 => rbx i k ||| ((rbit i k ^^^ rbit i (k + 7) ^^^ rbit i (k + 6) ^^^ rbit i (k + 5) ^^^ rbit i (k + 4) ^^^ rbit 99#8 k) <<< k)
def mixesL : List Byte := [2#8, 3#8, 1#8, 1#8]
def unmixesL : List Byte := [14#8, 11#8, 13#8, 9#8]
def brg (by_ : List Byte) (row : Nat) (a : Byte) : Nat → BitVec 32
 | 0 => 0#32
 | r + 1 => brg by_ row a r ||| ((tms (nth by_ ((row + 4 - r) % 4)) a).setWidth 32 <<< (8 * r))
def mixF (i : Nat) : BitVec 32 := brg mixesL (i / 256) (bxTo (BitVec.ofNat 8 (i % 256))) 4
def unmixF (i : Nat) : BitVec 32 := brg unmixesL (i / 256) (BitVec.ofNat 8 (i % 256)) 4
def mixT : List (BitVec 32) := tab 1024 mixF
def unmixT : List (BitVec 32) := tab 1024 unmixF
theorem mixT_length : mixT.length = 1024 := tab_length
theorem mixT_nth (row : Nat) (a : Byte) (h : row < 4) : nth mixT (row * 256 + a.toNat) = brg mixesL row (bxTo a) 4 := by
 have ha : a.toNat < 256 := a.isLt
 rw [mixT, nth_tab (by omega), mixF, show (row * 256 + a.toNat) / 256 = row from by omega, show (row * 256 + a.toNat) % 256 = a.toNat from by omega]
 simp
def byteW (n : BitVec 32) (r : Nat) : Byte := (n >>> (8 * r)).setWidth 8
def shp (row col : Nat) : Nat := row + 4 * ((col + row) % 4)
theorem shp_lt (row col : Nat) (h : row < 4) : shp row col < 16 := by unfold shp; omega
def colW (b key : List Byte) (col : Nat) : Nat → BitVec 32
 | 0 => (nth key (4 * col)).setWidth 32 ||| ((nth key (4 * col + 1)).setWidth 32 <<< 8) ||| ((nth key (4 * col + 2)).setWidth 32 <<< 16) ||| ((nth key (4 * col + 3)).setWidth 32 <<< 24)
 | row + 1 => colW b key col row ^^^ brg mixesL row (bxTo (nth b (shp row col))) 4
def rndB (b key : List Byte) (i : Nat) : Byte := byteW (colW b key (i / 4) 4) (i % 4)
def rnd (b key : List Byte) : List Byte := tab 16 (rndB b key)
def lastB (b key : List Byte) (i : Nat) : Byte := bxTo (nth b (shp (i % 4) (i / 4))) ^^^ nth key i
def last (b key : List Byte) : List Byte := tab 16 (lastB b key)
def rnds (b : List Byte) : List (List Byte) → List Byte
 | [] => b
 | k :: ks => rnds (rnd b k) ks
theorem rnd_length (b key : List Byte) : (rnd b key).length = 16 := tab_length
theorem last_length (b key : List Byte) : (last b key).length = 16 := tab_length
def unbF (b : List Byte) : Nat → List Byte
 | 0 => zer 16
 | k + 1 => setN (unbF b k) (shp (k % 4) (k / 4)) (bxBack (nth b k))
def unbL (b : List Byte) : List Byte := unbF b 16
def ush (j : Nat) : Nat := j % 4 + 4 * ((j / 4 + 4 - j % 4) % 4)
def cmb (by_ : List Byte) (r : Nat) (x : Nat → Byte) : Byte := ((tms (nth by_ ((0 + 4 - r) % 4)) (x 0) ^^^ tms (nth by_ ((1 + 4 - r) % 4)) (x 1)) ^^^ tms (nth by_ ((2 + 4 - r) % 4)) (x 2)) ^^^ tms (nth by_ ((3 + 4 - r) % 4)) (x 3)
def uncW (b : List Byte) (col : Nat) : Nat → BitVec 32
 | 0 => 0#32
 | r + 1 => uncW b col r ^^^ brg unmixesL r (nth b (r + 4 * col)) 4
def uncB (b : List Byte) (i : Nat) : Byte := byteW (uncW b (i / 4) 4) (i % 4)
def uncL (b : List Byte) : List Byte := tab 16 (uncB b)
def unr (b key : List Byte) : List Byte := unbL (uncL (bothL b key))
def unl (b key : List Byte) : List Byte := unbL (bothL b key)
/-! ### Rounds, one after the other -/
theorem rnds_length (ks : List (List Byte)) : ∀ b : List Byte, b.length = 16 → (rnds b ks).length = 16 := by
 induction ks with
 | nil => intro b h; exact h
 | cons k ks ih => intro b _; exact ih _ (rnd_length b k)
theorem rnds_append (ks ls : List (List Byte)) : ∀ b : List Byte, rnds b (ks ++ ls) = rnds (rnds b ks) ls := by
 induction ks with
 | nil => intro b; rfl
 | cons k ks ih => intro b; exact ih _
theorem rnds_take (b : List Byte) (ks : List (List Byte)) (k : Nat) (h : k < ks.length) : rnds b (ks.take (k + 1)) = rnd (rnds b (ks.take k)) (ks.getD k []) := by
 rw [List.take_succ_eq_append_getElem h, rnds_append]
 simp [rnds, h]
end Go.Proofs.YtdmgchdhilcncaaGreatDoor
