/-
  Layer 2, plain: the field of 256 elements, its powers and boxes. No program in sight, no conditions.
-/
import Derived.Test.YtmgopjeaehmbfaaDoorMem
namespace Go.Proofs.YtmgopjeaehmbfaaDoor
open Go
set_option linter.unusedVariables false
set_option linter.unusedSimpArgs false

/-- The product with x. -/
def dbl (a : Byte) : Byte := (a <<< 1) ^^^ ((a >>> 7) * 27#8)
def tmsG : Nat → Byte → Byte → Byte
  | 0, _, _ => 0#8
  | n + 1, a, b => (a * (b &&& 1#8)) ^^^ tmsG n (dbl a) (b >>> 1)
/-- The product. -/
def tms (a b : Byte) : Byte := tmsG 8 a b

theorem bit_cases (b : Byte) : b &&& 1#8 = 0#8 ∨ b &&& 1#8 = 1#8 := by revert b; decide +kernel
theorem mul_bit (x y b : Byte) : (x ^^^ y) * (b &&& 1#8) = (x * (b &&& 1#8)) ^^^ (y * (b &&& 1#8)) := by
  rcases bit_cases b with h | h <;> rw [h] <;> simp
theorem bit_mul (a x y : Byte) : a * ((x ^^^ y) &&& 1#8) = (a * (x &&& 1#8)) ^^^ (a * (y &&& 1#8)) := by
  have e : (x ^^^ y) &&& 1#8 = (x &&& 1#8) ^^^ (y &&& 1#8) := by
    apply BitVec.eq_of_getLsbD_eq; intro i hi; simp only [BitVec.getLsbD_and, BitVec.getLsbD_xor]; cases x.getLsbD i <;> cases y.getLsbD i <;> simp
  rw [e]
  rcases bit_cases x with h | h <;> rcases bit_cases y with k | k <;> rw [h, k] <;> simp
theorem top_mul : ∀ x y : Byte, (x = 0#8 ∨ x = 1#8) → (y = 0#8 ∨ y = 1#8) → (x ^^^ y) * 27#8 = (x * 27#8) ^^^ (y * 27#8) := by
  rintro x y (rfl | rfl) (rfl | rfl) <;> decide
theorem top_cases (b : Byte) : b >>> 7 = 0#8 ∨ b >>> 7 = 1#8 := by revert b; decide +kernel
theorem dbl_xor (x y : Byte) : dbl (x ^^^ y) = dbl x ^^^ dbl y := by
  unfold dbl
  rw [BitVec.shiftLeft_xor_distrib, BitVec.ushiftRight_xor_distrib, top_mul _ _ (top_cases x) (top_cases y)]
  ac_rfl
theorem xor4 (a b c d : Byte) : (a ^^^ b) ^^^ (c ^^^ d) = (a ^^^ c) ^^^ (b ^^^ d) := by
  ac_rfl
theorem tmsG_xa (n : Nat) : ∀ x y b : Byte, tmsG n (x ^^^ y) b = tmsG n x b ^^^ tmsG n y b := by
  induction n with
  | zero => intros; simp [tmsG]
  | succ n ih => intro x y b; rw [tmsG, tmsG, tmsG, dbl_xor, ih, mul_bit, xor4]
theorem tmsG_xb (n : Nat) : ∀ a x y : Byte, tmsG n a (x ^^^ y) = tmsG n a x ^^^ tmsG n a y := by
  induction n with
  | zero => intros; simp [tmsG]
  | succ n ih => intro a x y; rw [tmsG, tmsG, tmsG, BitVec.ushiftRight_xor_distrib, ih, bit_mul, xor4]
theorem tmsG_zero (n : Nat) : ∀ a : Byte, tmsG n a 0#8 = 0#8 := by
  induction n with
  | zero => intros; rfl
  | succ n ih => intro a; rw [tmsG]; simp [ih]
theorem tms_xa (x y b : Byte) : tms (x ^^^ y) b = tms x b ^^^ tms y b := tmsG_xa 8 x y b
theorem tms_xb (a x y : Byte) : tms a (x ^^^ y) = tms a x ^^^ tms a y := tmsG_xb 8 a x y
/-- The program's loop: it ends as soon as nothing is left. -/
def tmsF : Nat → Byte → Byte → Byte → Byte
  | 0, _, _, s => s
  | n + 1, a, b, s => tmsF n (dbl a) (b >>> 1) (s ^^^ (a * (b &&& 1#8)))
theorem tmsF_tmsG (n : Nat) : ∀ a b s : Byte, tmsF n a b s = s ^^^ tmsG n a b := by
  induction n with
  | zero => intros; simp [tmsF, tmsG]
  | succ n ih => intro a b s; rw [tmsF, ih, tmsG, BitVec.xor_assoc]
theorem tmsF_tms (a b : Byte) : tmsF 8 a b 0#8 = tms a b := by rw [tmsF_tmsG]; simp [tms]
theorem tmsF_end (n : Nat) (a s : Byte) : tmsF n a 0#8 s = s := by rw [tmsF_tmsG, tmsG_zero]; simp

/-- What is linear and 0 at each power of x is 0. -/
theorem lin_zero (f : Byte → Byte) (h : ∀ x y, f (x ^^^ y) = f x ^^^ f y) (hb : ∀ i, i < 8 → f (1#8 <<< i) = 0#8) (x : Byte) : f x = 0#8 := by
  have h0 : f 0#8 = 0#8 := by have := h 0#8 0#8; simpa using this
  have e : ∀ x : Byte, x = ((((((((x &&& 1#8) ^^^ (x &&& 2#8)) ^^^ (x &&& 4#8)) ^^^ (x &&& 8#8)) ^^^ (x &&& 16#8)) ^^^ (x &&& 32#8)) ^^^ (x &&& 64#8)) ^^^ (x &&& 128#8)) := by decide +kernel
  have c : ∀ x : Byte, ∀ i, i < 8 → x &&& (1#8 <<< i) = 0#8 ∨ x &&& (1#8 <<< i) = 1#8 <<< i := by decide +kernel
  have z : ∀ i, i < 8 → f (x &&& (1#8 <<< i)) = 0#8 := fun i hi => by
    rcases c x i hi with k | k <;> rw [k]
    · exact h0
    · exact hb i hi
  have z0 := z 0 (by omega); have z1 := z 1 (by omega); have z2 := z 2 (by omega); have z3 := z 3 (by omega)
  have z4 := z 4 (by omega); have z5 := z 5 (by omega); have z6 := z 6 (by omega); have z7 := z 7 (by omega)
  simp only [show (1#8 <<< 0) = 1#8 from rfl, show (1#8 <<< 1) = 2#8 from rfl, show (1#8 <<< 2) = 4#8 from rfl, show (1#8 <<< 3) = 8#8 from rfl, show (1#8 <<< 4) = 16#8 from rfl, show (1#8 <<< 5) = 32#8 from rfl, show (1#8 <<< 6) = 64#8 from rfl, show (1#8 <<< 7) = 128#8 from rfl] at z0 z1 z2 z3 z4 z5 z6 z7
  rw [e x, h, h, h, h, h, h, h, z0, z1, z2, z3, z4, z5, z6, z7]
  simp
theorem xor_zero {x y : Byte} (h : x ^^^ y = 0#8) : x = y := BitVec.xor_eq_zero_iff.1 h
/-- Two that are linear in each place and alike at the powers of x are one. -/
theorem bilin (f g : Byte → Byte → Byte) (fa : ∀ x y b, f (x ^^^ y) b = f x b ^^^ f y b) (fb : ∀ a x y, f a (x ^^^ y) = f a x ^^^ f a y) (ga : ∀ x y b, g (x ^^^ y) b = g x b ^^^ g y b) (gb : ∀ a x y, g a (x ^^^ y) = g a x ^^^ g a y)
    (h : ∀ i, i < 8 → ∀ j, j < 8 → f (1#8 <<< i) (1#8 <<< j) = g (1#8 <<< i) (1#8 <<< j)) (a b : Byte) : f a b = g a b := by
  apply xor_zero
  refine lin_zero (fun a => f a b ^^^ g a b) (fun x y => by rw [fa, ga, xor4]) (fun i hi => ?_) a
  refine lin_zero (fun b => f (1#8 <<< i) b ^^^ g (1#8 <<< i) b) (fun x y => by rw [fb, gb, xor4]) (fun j hj => ?_) b
  simp only [h i hi j hj, BitVec.xor_self]
theorem tms_comm (a b : Byte) : tms a b = tms b a :=
  bilin tms (fun a b => tms b a) tms_xa tms_xb (fun x y b => tms_xb b x y) (fun a x y => tms_xa x y a) (by decide +kernel) a b
theorem tms_assoc (a b c : Byte) : tms (tms a b) c = tms a (tms b c) := by
  apply xor_zero
  refine lin_zero (fun a => tms (tms a b) c ^^^ tms a (tms b c)) (fun x y => by rw [tms_xa, tms_xa, tms_xa, xor4]) (fun i hi => ?_) a
  refine lin_zero (fun b => tms (tms (1#8 <<< i) b) c ^^^ tms (1#8 <<< i) (tms b c)) (fun x y => by rw [tms_xb, tms_xa, tms_xa, tms_xb, xor4]) (fun j hj => ?_) b
  refine lin_zero (fun c => tms (tms (1#8 <<< i) (1#8 <<< j)) c ^^^ tms (1#8 <<< i) (tms (1#8 <<< j) c)) (fun x y => by rw [tms_xb, tms_xb, tms_xb, xor4]) (fun k hk => ?_) c
  have : ∀ i, i < 8 → ∀ j, j < 8 → ∀ k, k < 8 → tms (tms (1#8 <<< i) (1#8 <<< j)) (1#8 <<< k) = tms (1#8 <<< i) (tms (1#8 <<< j) (1#8 <<< k)) := by decide +kernel
  simp only [this i hi j hj k hk, BitVec.xor_self]
theorem tms_one (a : Byte) : tms a 1#8 = a := by revert a; decide +kernel
theorem one_tms (a : Byte) : tms 1#8 a = a := by rw [tms_comm, tms_one]
theorem tms_zero (a : Byte) : tms a 0#8 = 0#8 := tmsG_zero 8 a
theorem zero_tms (a : Byte) : tms 0#8 a = 0#8 := by rw [tms_comm, tms_zero]
theorem dbl_tms (a : Byte) : dbl a = tms 2#8 a := by revert a; decide +kernel

/-! ### Powers -/
def gpow (a : Byte) : Nat → Byte
  | 0 => 1#8
  | n + 1 => tms (gpow a n) a
theorem gpow_add (a : Byte) (n m : Nat) : gpow a (n + m) = tms (gpow a n) (gpow a m) := by
  induction m with
  | zero => rw [Nat.add_zero, gpow, tms_one]
  | succ m ih => rw [← Nat.add_assoc, gpow, ih, gpow, tms_assoc]
theorem gpow_sq (a : Byte) (n : Nat) : gpow (tms a a) n = gpow a (2 * n) := by
  induction n with
  | zero => rfl
  | succ n ih => rw [gpow, ih, show 2 * (n + 1) = 2 * n + 1 + 1 from by omega, gpow, gpow, tms_assoc]
/-- The program's loop, by squares. -/
def pwS : Nat → Byte → Byte → Nat → Byte
  | 0, out, _, _ => out
  | f + 1, out, a, n => pwS f (if n % 2 = 1 then tms out a else out) (tms a a) (n / 2)
theorem pwS_gpow (f : Nat) : ∀ (out a : Byte) (n : Nat), n < 2 ^ f → pwS f out a n = tms out (gpow a n) := by
  induction f with
  | zero => intro out a n h; obtain rfl : n = 0 := by simp at h; omega
            simp [pwS, gpow, tms_one]
  | succ f ih =>
    intro out a n h
    rw [pwS, ih _ _ _ (by rw [Nat.pow_succ] at h; omega), gpow_sq]
    by_cases hn : n % 2 = 1
    · rw [if_pos hn, tms_assoc, show n = 2 * (n / 2) + 1 from by omega]
      rw [show (2 * (n / 2) + 1) / 2 = n / 2 from by omega, Nat.add_comm, gpow_add]
      congr 1; rw [gpow, gpow, one_tms]
    · rw [if_neg hn, show 2 * (n / 2) = n from by omega]
theorem pwS_end (f : Nat) : ∀ (out a : Byte), pwS f out a 0 = out := by
  intro out a; rw [pwS_gpow f out a 0 (Nat.two_pow_pos f), gpow, tms_one]
/-- The inverse; 0 of 0. -/
def inv (a : Byte) : Byte := pwS 8 1#8 a 254
theorem inv_gpow (a : Byte) : inv a = gpow a 254 := by rw [inv, pwS_gpow 8 1#8 a 254 (by decide), one_tms]
theorem inv_mul : ∀ a : Byte, a ≠ 0#8 → tms a (inv a) = 1#8 := by decide +kernel
theorem inv_zero : inv 0#8 = 0#8 := by decide +kernel
theorem inv_ne (a : Byte) (h : a ≠ 0#8) : inv a ≠ 0#8 := fun e => by have := inv_mul a h; rw [e, tms_zero] at this; cases this
theorem inv_inv (a : Byte) : inv (inv a) = a := by revert a; decide +kernel
theorem inv_unique (a x : Byte) (h : tms a x = 1#8) : x = inv a := by
  have ha : a ≠ 0#8 := fun e => by rw [e, zero_tms] at h; cases h
  have : tms (inv a) (tms a x) = tms (inv a) 1#8 := by rw [h]
  rwa [← tms_assoc, tms_comm (inv a) a, inv_mul a ha, one_tms, tms_one] at this
theorem tms_eq_zero (a b : Byte) : (tms a b = 0#8) ↔ (a = 0#8 ∨ b = 0#8) := by
  constructor
  · intro h
    by_cases ha : a = 0#8
    · exact .inl ha
    · right
      have : tms (inv a) (tms a b) = 0#8 := by rw [h, tms_zero]
      rwa [← tms_assoc, tms_comm (inv a) a, inv_mul a ha, one_tms] at this
  · rintro (rfl | rfl)
    · exact zero_tms b
    · exact tms_zero a
theorem fermat (a : Byte) (h : a ≠ 0#8) : gpow a 255 = 1#8 := by
  rw [gpow, ← inv_gpow, tms_comm, inv_mul a h]

/-! ### The reference's product: polynomials, and their rest -/
def sel (c : Bool) (x : BitVec 16) : BitVec 16 := if c then x else 0#16
theorem sel_xor (c d : Bool) (x : BitVec 16) : sel (c ^^ d) x = sel c x ^^^ sel d x := by cases c <;> cases d <;> simp [sel]
theorem sel_xorx (c : Bool) (x y : BitVec 16) : sel c (x ^^^ y) = sel c x ^^^ sel c y := by cases c <;> simp [sel]
def rp (a b : Byte) : Nat → BitVec 16
  | 0 => 0#16
  | k + 1 => rp a b k ^^^ sel (b.getLsbD k) (a.setWidth 16 <<< k)
def rr (p : BitVec 16) : Nat → BitVec 16
  | 0 => p
  | j + 1 => rr p j ^^^ sel ((rr p j).getLsbD (14 - j)) (283#16 <<< (6 - j))
def rtms (a b : Byte) : Byte := (rr (rp a b 8) 7).setWidth 8
theorem xor4w (a b c d : BitVec 16) : (a ^^^ b) ^^^ (c ^^^ d) = (a ^^^ c) ^^^ (b ^^^ d) := by
  ac_rfl
theorem rp_xb (a x y : Byte) (k : Nat) : rp a (x ^^^ y) k = rp a x k ^^^ rp a y k := by
  induction k with
  | zero => simp [rp]
  | succ k ih => rw [rp, rp, rp, ih, BitVec.getLsbD_xor, sel_xor, xor4w]
theorem rp_xa (x y b : Byte) (k : Nat) : rp (x ^^^ y) b k = rp x b k ^^^ rp y b k := by
  induction k with
  | zero => simp [rp]
  | succ k ih => rw [rp, rp, rp, ih, BitVec.setWidth_xor, BitVec.shiftLeft_xor_distrib, sel_xorx, xor4w]
theorem rr_xor (p q : BitVec 16) (j : Nat) : rr (p ^^^ q) j = rr p j ^^^ rr q j := by
  induction j with
  | zero => rfl
  | succ j ih => rw [rr, rr, rr, ih, BitVec.getLsbD_xor, sel_xor, xor4w]
theorem rtms_tms (a b : Byte) : rtms a b = tms a b := by
  refine bilin rtms tms (fun x y b => ?_) (fun a x y => ?_) tms_xa tms_xb (by decide +kernel) a b
  · simp only [rtms, rp_xa, rr_xor, BitVec.setWidth_xor]
  · simp only [rtms, rp_xb, rr_xor, BitVec.setWidth_xor]
theorem bit8 (b : Byte) (k : Nat) (hk : k < 8) : (b >>> k % 2#8 == 1#8) = b.getLsbD k := by revert k b; decide +kernel

/-! ### Boxes -/
def rotl8 (x : Byte) (k : Nat) : Byte := (x <<< k) ||| (x >>> (8 - k))
def boxF (i : Byte) : Nat → Byte
  | 0 => 99#8
  | k + 1 => boxF i k ^^^ rotl8 i k
/-- The box of a byte. -/
def sbox (a : Byte) : Byte := boxF (inv a) 5
def pws : Nat → Byte
  | 0 => 1#8
  | k + 1 => pws k ^^^ dbl (pws k)
def putT (l : List Byte) (a b : Byte) : List Byte := setN (setN l a.toNat b) (256 + b.toNat) a
def tabT : Nat → List Byte
  | 0 => putT (zer 512) 0#8 (boxF 0#8 5)
  | k + 1 => putT (tabT k) (pws k) (boxF (pws ((255 - k) % 255)) 5)
theorem putT_length (l : List Byte) (a b : Byte) : (putT l a b).length = l.length := by simp [putT]
theorem tabT_length (k : Nat) : (tabT k).length = 512 := by
  induction k with
  | zero => simp [tabT, putT_length]
  | succ k ih => rw [tabT, putT_length, ih]
/-- The boxes, there and back. -/
def tabs : List Byte := tabT 255
theorem tabs_length : tabs.length = 512 := tabT_length 255
def bxTo (a : Byte) : Byte := nth tabs a.toNat
def bxBack (a : Byte) : Byte := nth tabs (256 + a.toNat)

/-! ### The table, written out -/
def tabsL : List Byte := [
  99#8, 124#8, 119#8, 123#8, 242#8, 107#8, 111#8, 197#8, 48#8, 1#8, 103#8, 43#8, 254#8, 215#8, 171#8, 118#8, 202#8, 130#8, 201#8, 125#8, 250#8, 89#8, 71#8, 240#8, 173#8, 212#8, 162#8, 175#8, 156#8, 164#8, 114#8, 192#8,
  183#8, 253#8, 147#8, 38#8, 54#8, 63#8, 247#8, 204#8, 52#8, 165#8, 229#8, 241#8, 113#8, 216#8, 49#8, 21#8, 4#8, 199#8, 35#8, 195#8, 24#8, 150#8, 5#8, 154#8, 7#8, 18#8, 128#8, 226#8, 235#8, 39#8, 178#8, 117#8,
  9#8, 131#8, 44#8, 26#8, 27#8, 110#8, 90#8, 160#8, 82#8, 59#8, 214#8, 179#8, 41#8, 227#8, 47#8, 132#8, 83#8, 209#8, 0#8, 237#8, 32#8, 252#8, 177#8, 91#8, 106#8, 203#8, 190#8, 57#8, 74#8, 76#8, 88#8, 207#8,
  208#8, 239#8, 170#8, 251#8, 67#8, 77#8, 51#8, 133#8, 69#8, 249#8, 2#8, 127#8, 80#8, 60#8, 159#8, 168#8, 81#8, 163#8, 64#8, 143#8, 146#8, 157#8, 56#8, 245#8, 188#8, 182#8, 218#8, 33#8, 16#8, 255#8, 243#8, 210#8,
  205#8, 12#8, 19#8, 236#8, 95#8, 151#8, 68#8, 23#8, 196#8, 167#8, 126#8, 61#8, 100#8, 93#8, 25#8, 115#8, 96#8, 129#8, 79#8, 220#8, 34#8, 42#8, 144#8, 136#8, 70#8, 238#8, 184#8, 20#8, 222#8, 94#8, 11#8, 219#8,
  224#8, 50#8, 58#8, 10#8, 73#8, 6#8, 36#8, 92#8, 194#8, 211#8, 172#8, 98#8, 145#8, 149#8, 228#8, 121#8, 231#8, 200#8, 55#8, 109#8, 141#8, 213#8, 78#8, 169#8, 108#8, 86#8, 244#8, 234#8, 101#8, 122#8, 174#8, 8#8,
  186#8, 120#8, 37#8, 46#8, 28#8, 166#8, 180#8, 198#8, 232#8, 221#8, 116#8, 31#8, 75#8, 189#8, 139#8, 138#8, 112#8, 62#8, 181#8, 102#8, 72#8, 3#8, 246#8, 14#8, 97#8, 53#8, 87#8, 185#8, 134#8, 193#8, 29#8, 158#8,
  225#8, 248#8, 152#8, 17#8, 105#8, 217#8, 142#8, 148#8, 155#8, 30#8, 135#8, 233#8, 206#8, 85#8, 40#8, 223#8, 140#8, 161#8, 137#8, 13#8, 191#8, 230#8, 66#8, 104#8, 65#8, 153#8, 45#8, 15#8, 176#8, 84#8, 187#8, 22#8,
  82#8, 9#8, 106#8, 213#8, 48#8, 54#8, 165#8, 56#8, 191#8, 64#8, 163#8, 158#8, 129#8, 243#8, 215#8, 251#8, 124#8, 227#8, 57#8, 130#8, 155#8, 47#8, 255#8, 135#8, 52#8, 142#8, 67#8, 68#8, 196#8, 222#8, 233#8, 203#8,
  84#8, 123#8, 148#8, 50#8, 166#8, 194#8, 35#8, 61#8, 238#8, 76#8, 149#8, 11#8, 66#8, 250#8, 195#8, 78#8, 8#8, 46#8, 161#8, 102#8, 40#8, 217#8, 36#8, 178#8, 118#8, 91#8, 162#8, 73#8, 109#8, 139#8, 209#8, 37#8,
  114#8, 248#8, 246#8, 100#8, 134#8, 104#8, 152#8, 22#8, 212#8, 164#8, 92#8, 204#8, 93#8, 101#8, 182#8, 146#8, 108#8, 112#8, 72#8, 80#8, 253#8, 237#8, 185#8, 218#8, 94#8, 21#8, 70#8, 87#8, 167#8, 141#8, 157#8, 132#8,
  144#8, 216#8, 171#8, 0#8, 140#8, 188#8, 211#8, 10#8, 247#8, 228#8, 88#8, 5#8, 184#8, 179#8, 69#8, 6#8, 208#8, 44#8, 30#8, 143#8, 202#8, 63#8, 15#8, 2#8, 193#8, 175#8, 189#8, 3#8, 1#8, 19#8, 138#8, 107#8,
  58#8, 145#8, 17#8, 65#8, 79#8, 103#8, 220#8, 234#8, 151#8, 242#8, 207#8, 206#8, 240#8, 180#8, 230#8, 115#8, 150#8, 172#8, 116#8, 34#8, 231#8, 173#8, 53#8, 133#8, 226#8, 249#8, 55#8, 232#8, 28#8, 117#8, 223#8, 110#8,
  71#8, 241#8, 26#8, 113#8, 29#8, 41#8, 197#8, 137#8, 111#8, 183#8, 98#8, 14#8, 170#8, 24#8, 190#8, 27#8, 252#8, 86#8, 62#8, 75#8, 198#8, 210#8, 121#8, 32#8, 154#8, 219#8, 192#8, 254#8, 120#8, 205#8, 90#8, 244#8,
  31#8, 221#8, 168#8, 51#8, 136#8, 7#8, 199#8, 49#8, 177#8, 18#8, 16#8, 89#8, 39#8, 128#8, 236#8, 95#8, 96#8, 81#8, 127#8, 169#8, 25#8, 181#8, 74#8, 13#8, 45#8, 229#8, 122#8, 159#8, 147#8, 201#8, 156#8, 239#8,
  160#8, 224#8, 59#8, 77#8, 174#8, 42#8, 245#8, 176#8, 200#8, 235#8, 187#8, 60#8, 131#8, 83#8, 153#8, 97#8, 23#8, 43#8, 4#8, 126#8, 186#8, 119#8, 214#8, 38#8, 225#8, 105#8, 20#8, 99#8, 85#8, 33#8, 12#8, 125#8]
theorem tabs_lit : tabs = tabsL := by decide +kernel
theorem bxTo_lit (a : Byte) : bxTo a = nth tabsL a.toNat := by rw [bxTo, tabs_lit]
theorem bxBack_lit (a : Byte) : bxBack a = nth tabsL (256 + a.toNat) := by rw [bxBack, tabs_lit]
theorem bxTo_sbox (a : Byte) : bxTo a = sbox a := by rw [bxTo_lit]; revert a; decide +kernel
theorem back_to (a : Byte) : bxBack (bxTo a) = a := by rw [bxBack_lit, bxTo_lit]; revert a; decide +kernel
theorem to_back (a : Byte) : bxTo (bxBack a) = a := by rw [bxTo_lit, bxBack_lit]; revert a; decide +kernel
theorem to_inj {a b : Byte} (h : bxTo a = bxTo b) : a = b := by rw [← back_to a, ← back_to b, h]
theorem to_ne (a : Byte) : bxTo a ≠ a := by rw [bxTo_lit]; revert a; decide +kernel
theorem to_not (a : Byte) : bxTo a ≠ ~~~a := by rw [bxTo_lit]; revert a; decide +kernel
def rbit (a : Byte) (k : Nat) : Byte := a >>> (k % 8) % 2#8
def rbx (i : Byte) : Nat → Byte
  | 0 => 0#8
  | k + 1 => rbx i k ||| ((rbit i k ^^^ rbit i (k + 7) ^^^ rbit i (k + 6) ^^^ rbit i (k + 5) ^^^ rbit i (k + 4) ^^^ rbit 99#8 k) <<< k)
theorem rbx_box (i : Byte) : rbx i 8 = boxF i 5 := by revert i; decide +kernel

end Go.Proofs.YtmgopjeaehmbfaaDoor
