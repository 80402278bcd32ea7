/-
  Layer 1: sums and differences of numbers of 128 bits. No conditions.
  Layer 1: the reference's sums and differences of sixteen bytes. No conditions.
  Layer 1: the reference's rows: padded, marked, put together by exclusive or. Conditions: rows of at most 2^46 bytes, sizes to 2^31.
  Layer 6, plain: a sum is a chain of compressions. No program in sight, no conditions.
  Layer 6: bytes so far, and a block compressed with them. Conditions: the program's first numbers and rows read as its text lays them.
  Layer 6: bytes written. Conditions: the program's first numbers and rows read as its text lays them.
  Layer 15, plain: a key's parts, offsets, and the tweaked block function, on lists of bytes. No program in sight, no conditions.
  Layer 16, plain: what a string brings, the hash of a row, its function of any length, on lists of bytes. No program in sight, no conditions.
  Slices of blocks of sixteen bytes: made of given blocks, and read. No conditions beyond those written in each theorem.
-/
import Derived.Test.YtdmgchdhilcncaaGreatDoorZTopStore0
import Derived.Test.YtdmgchdhilcncaaGreatDoorZTopStore4
import Derived.Test.YtdmgchdhilcncaaGreatDoorZTopStore7
import Derived.Test.YtdmgchdhilcncaaGreatDoorZTopStore5
import Derived.Test.YtdmgchdhilcncaaGreatDoorZTopStore3
import Derived.Test.YtdmgchdhilcncaaGreatDoorZTopStore6
set_option linter.unusedSimpArgs false
set_option linter.unusedVariables false
namespace Go.Proofs.YtdmgchdhilcncaaGreatDoor
open Go Go.RowKit
set_option maxRecDepth 100000
def carryB (x y c : BitVec 64) : BitVec 64 := BitVec.ofNat 64 ((x.toNat + y.toNat + c.toNat) / 2 ^ 64)
def borrowB (x y c : BitVec 64) : BitVec 64 := if x.toNat < y.toNat + c.toNat then 1 else 0
theorem carry_le (x y c : BitVec 64) (h : c.toNat ≤ 1) : (carryB x y c).toNat ≤ 1 := by
 have := x.isLt; have := y.isLt
 simp only [carryB, BitVec.toNat_ofNat]; omega
theorem borrow_le (x y c : BitVec 64) : (borrowB x y c).toNat ≤ 1 := by
 unfold borrowB; split <;> simp
theorem add64_run (x y c : BitVec 64) (hc : c.toNat ≤ 1) (w : World) : (callFunc 82 #[v64 x, v64 y, v64 c]).run Tryz.prog w = .ok (.value (.tuple #[v64 (x + y + c), v64 (carryB x y c)])) w := by
 have h := run_callFunc_extern (P := Tryz.prog) (f := 82) (fn := Tryz.f82) (e := add64Entry) (by kernel_rfl) (by kernel_rfl) (by kernel_rfl) (by kernel_rfl) (by rfl) #[v64 x, v64 y, v64 c] w
 rw [h]
 unfold v64
 have hx := x.isLt; have hy := y.isLt
 have e1 : ((x.toNat : Int) + y.toNat + c.toNat) % 18446744073709551616 = ((x + y + c).toNat : Int) := by simp only [BitVec.toNat_add]; omega
 have e2 : ((x.toNat : Int) + y.toNat + c.toNat) / 18446744073709551616 = ((carryB x y c).toNat : Int) := by
   simp only [carryB, BitVec.toNat_ofNat]
   rw [Nat.mod_eq_of_lt (by omega)]; omega
 rw [run_add64 _ _ _ (by omega) (by omega) (by omega) (by omega), e1, e2]
 rfl
def sub64Entry : Array Value → Sem Value := fun args => do
 let (x, y, b) ← Extern.MathBitsCarry.three "Sub64" args
 pure (Extern.MathBitsCarry.pair ((x + Extern.MathBitsCarry.m64 - y - b) % Extern.MathBitsCarry.m64) (if x < y + b then 1 else 0))
theorem sub64_run (x y c : BitVec 64) (hc : c.toNat ≤ 1) (w : World) : (callFunc 126 #[v64 x, v64 y, v64 c]).run Tryz.prog w = .ok (.value (.tuple #[v64 (x - y - c), v64 (borrowB x y c)])) w := by
 have h := run_callFunc_extern (P := Tryz.prog) (f := 126) (fn := Tryz.f126) (e := sub64Entry) (by kernel_rfl) (by kernel_rfl) (by kernel_rfl) (by kernel_rfl) (by rfl) #[v64 x, v64 y, v64 c] w
 rw [h]
 unfold v64
 have hx := x.isLt; have hy := y.isLt
 have key : ∀ k : Nat, k ≤ 1 → (sub64Entry #[.int .u64 x.toNat, .int .u64 y.toNat, .int .u64 (k : Int)]).run Tryz.prog w =
     .ok (Extern.MathBitsCarry.pair ((x.toNat + Extern.MathBitsCarry.m64 - y.toNat - k) % Extern.MathBitsCarry.m64) (if x.toNat < y.toNat + k then 1 else 0)) w := by
   intro k hk
   have : k = 0 ∨ k = 1 := by omega
   rcases this with rfl | rfl <;> rfl
 rw [key _ hc]
 simp only [Extern.MathBitsCarry.pair, Extern.MathBitsCarry.m64, Result.andThen_ok]
 have e1 : (x.toNat + 2 ^ 64 - y.toNat - c.toNat) % 2 ^ 64 = (x - y - c).toNat := by simp only [BitVec.toNat_sub]; omega
 have e2 : (if x.toNat < y.toNat + c.toNat then 1 else 0) = (borrowB x y c).toNat := by unfold borrowB; split <;> rfl
 rw [e1, e2]
 rfl
theorem v64_0 : Value.int .u64 0 = v64 0#64 := rfl
@[local go_sem] theorem add64_run0 (x y : BitVec 64) (w : World) : (callFunc 82 #[v64 x, v64 y, .int .u64 0]).run Tryz.prog w = .ok (.value (.tuple #[v64 (x + y), v64 (carryB x y 0#64)])) w := by
 have := add64_run x y 0 (by decide) w; simpa [v64_0] using this
@[local go_sem] theorem add64_run1 (x y a b : BitVec 64) (w : World) : (callFunc 82 #[v64 x, v64 y, v64 (carryB a b 0#64)]).run Tryz.prog w = .ok (.value (.tuple #[v64 (x + y + carryB a b 0#64), v64 (carryB x y (carryB a b 0#64))])) w :=
 add64_run x y _ (carry_le a b 0 (by decide)) w
@[local go_sem] theorem sub64_run0 (x y : BitVec 64) (w : World) : (callFunc 126 #[v64 x, v64 y, .int .u64 0]).run Tryz.prog w = .ok (.value (.tuple #[v64 (x - y), v64 (borrowB x y 0#64)])) w := by
 have := sub64_run x y 0 (by decide) w; simpa [v64_0] using this
@[local go_sem] theorem sub64_run1 (x y a b : BitVec 64) (w : World) : (callFunc 126 #[v64 x, v64 y, v64 (borrowB a b 0#64)]).run Tryz.prog w = .ok (.value (.tuple #[v64 (x - y - borrowB a b 0#64), v64 (borrowB x y (borrowB a b 0#64))])) w :=
 sub64_run x y _ (borrow_le a b 0) w
@[local go_sem] theorem build_wide' (a b : BitVec 64) (w : World) : (Instr.build 97 #[(0, v64 a), (1, v64 b)]).run Tryz.prog w = .ok (WV a b) w := by kernel_rfl
set_option maxHeartbeats 400000 in
theorem oplus_any (a b c d : BitVec 64) (w0 : World) :
   Gives Tryz.prog 79 #[WV a b, WV c d] w0 (WV (a + c) (b + d + carryB a c 0#64)) := by
 unfold Gives
 have hm := Own.start w0
 go_enter Tryz.func79, Tryz.ntmps79
 go_wp2_with (first | ((with_reducible show qLd); first | ((with_reducible apply wq_ld1 hm); exact rfl; infer_instance; exact rfl; (focus (repeat first | exact .hd | assumption | apply Has.tl); done); exact rfl)) | ((((with_reducible show qSt); first | ((with_reducible apply wq_stW hm); exact rfl; infer_instance; exact rfl; exact rfl; (focus (repeat first | exact .hd | assumption | apply Swap.tl); done); (focus (first | rfl | omega | (simp; done) | (simp; omega))); (focus (first | rfl | omega | (simp; done) | (simp; omega))); (focus (first | exact one_map _ | (simp [one8, one32, one64]; done)))))); clear hm; intro w hm) | ((first | ((with_reducible show qAl); first | ((with_reducible apply wq_new hm); exact rfl; infer_instance)) | ((with_reducible show qBx); first | ((with_reducible apply wq_boxN hm); exact rfl; exact rfl))); clear hm; intro gx_; intro w hm))
 refine ret_own hm rfl rfl (by infer_instance) (by repeat (first | exact Has.hd | assumption | apply Has.tl)) (by first | rfl | omega | (simp only [zeros_length, zer_length, tab_length, part_length, setN_length, List.length_map, List.length_cons, List.length_nil, List.length_append, List.length_take, List.length_drop, List.length_replicate, blk_length, putL_length] <;> omega)) rfl ⟨rfl, hm.x⟩
set_option maxHeartbeats 400000 in
theorem ominus_any (a b c d : BitVec 64) (w0 : World) :
   Gives Tryz.prog 118 #[WV a b, WV c d] w0 (WV (a - c) (b - d - borrowB a c 0#64)) := by
 unfold Gives
 have hm := Own.start w0
 go_enter Tryz.func118, Tryz.ntmps118
 go_wp2_with (first | ((with_reducible show qLd); first | ((with_reducible apply wq_ld1 hm); exact rfl; infer_instance; exact rfl; (focus (repeat first | exact .hd | assumption | apply Has.tl); done); exact rfl)) | ((((with_reducible show qSt); first | ((with_reducible apply wq_stW hm); exact rfl; infer_instance; exact rfl; exact rfl; (focus (repeat first | exact .hd | assumption | apply Swap.tl); done); (focus (first | rfl | omega | (simp; done) | (simp; omega))); (focus (first | rfl | omega | (simp; done) | (simp; omega))); (focus (first | exact one_map _ | (simp [one8, one32, one64]; done)))))); clear hm; intro w hm) | ((first | ((with_reducible show qAl); first | ((with_reducible apply wq_new hm); exact rfl; infer_instance)) | ((with_reducible show qBx); first | ((with_reducible apply wq_boxN hm); exact rfl; exact rfl))); clear hm; intro gx_; intro w hm))
 refine ret_own hm rfl rfl (by infer_instance) (by repeat (first | exact Has.hd | assumption | apply Has.tl)) (by first | rfl | omega | (simp only [zeros_length, zer_length, tab_length, part_length, setN_length, List.length_map, List.length_cons, List.length_nil, List.length_append, List.length_take, List.length_drop, List.length_replicate, blk_length, putL_length] <;> omega)) rfl ⟨rfl, hm.x⟩
def carN (a b : List Byte) : Nat → Nat
 | 0 => 0
 | k + 1 => ((nth a k).toNat + (nth b k).toNat + carN a b k) / 256
def plusB (a b : List Byte) (k : Nat) : Byte := BitVec.ofNat 8 ((nth a k).toNat + (nth b k).toNat + carN a b k)
def lessN (a b : List Byte) : Nat → Nat
 | 0 => 0
 | k + 1 => 1 - (256 + (nth a k).toNat - (nth b k).toNat - lessN a b k) / 256
def minusB (a b : List Byte) (k : Nat) : Byte := BitVec.ofNat 8 (256 + (nth a k).toNat - (nth b k).toNat - lessN a b k)
def padN (l : List Byte) (j : Nat) : List Byte := l ++ List.replicate j 0
theorem room_is (n : Nat) (s : Int) (hs : 0 < s) : ((n + roomN n s : Nat) : Int) % s = 0 := by
 obtain ⟨k, rfl⟩ := Int.eq_ofNat_of_zero_le (show 0 ≤ s by omega)
 have hk : 0 < k := by omega
 unfold roomN
 rw [if_neg (by omega), Int.toNat_natCast, ← Int.natCast_emod]
 have hlt : n % k < k := Nat.mod_lt _ hk
 have : (n + (k - n % k) % k) % k = 0 := by
   by_cases h : n % k = 0
   · rw [h, Nat.sub_zero, Nat.mod_self, Nat.add_zero, h]
   · rw [Nat.mod_eq_of_lt (show k - n % k < k by omega)]
     have e : n + (k - n % k) = k * (n / k) + k := by have := Nat.div_add_mod n k; omega
     rw [e, Nat.mul_add_mod, Nat.mod_self]
 rw [this]; rfl
abbrev RowsV (a b : List Byte) (p q : Option Addr) (c d : Nat) (m : Byte) (s : Int) : Value := .agg #[.slice p a.length c, .slice q b.length d, v8 m, .int .i64 s]
def nbk (n : Nat) : Nat := (n - 1) / 128
theorem nbk_le (n : Nat) : 128 * nbk n ≤ n := by unfold nbk; omega
theorem nbk_rest (n : Nat) : n - 128 * nbk n ≤ 128 := by unfold nbk; omega
theorem nbk_lt (n k : Nat) (h : k < nbk n) : 128 < n - 128 * k := by unfold nbk at h; omega
theorem nbk_ge (n k : Nat) (h : nbk n ≤ k) : n - 128 * k ≤ 128 := by unfold nbk at h; omega
theorem nbk_mono {n m : Nat} (h : n ≤ m) : nbk n ≤ nbk m := by unfold nbk; omega
def bkAt (l : List Byte) (k : Nat) : List Byte := (l.drop (128 * k)).take 128
def chF (h : List (BitVec 64)) (l : List Byte) : Nat → List (BitVec 64)
 | 0 => h
 | k + 1 => compL (chF h l k) (mL (bkAt l k)) (BitVec.ofNat 64 (128 * (k + 1))) 0#64 false
theorem chF_length (h : List (BitVec 64)) (l : List Byte) (hh : h.length = 8) (k : Nat) : (chF h l k).length = 8 := by
 cases k with
 | zero => exact hh
 | succ k => exact compL_length _ _ _ _ _
theorem bkAt_append (l m : List Byte) (k : Nat) (h : 128 * (k + 1) ≤ l.length) : bkAt (l ++ m) k = bkAt l k := by
 unfold bkAt
 rw [List.drop_append_of_le_length (by omega), List.take_append_of_le_length (by simp; omega)]
theorem chF_append (h : List (BitVec 64)) (l m : List Byte) : ∀ k, 128 * k ≤ l.length → chF h (l ++ m) k = chF h l k := by
 intro k
 induction k with
 | zero => intro _; rfl
 | succ k ih => intro hk; rw [chF, chF, ih (by omega), bkAt_append l m k hk]
def finL (h : List (BitVec 64)) (l : List Byte) : List (BitVec 64) := compL (chF h l (nbk l.length)) (mL (l.drop (128 * nbk l.length))) (BitVec.ofNat 64 l.length) 0#64 true
theorem finL_length (h : List (BitVec 64)) (l : List Byte) : (finL h l).length = 8 := compL_length _ _ _ _ _
def outL (h : List (BitVec 64)) : List Byte := (h.map fun n => putL n 8).flatten
theorem flat8 : ∀ (h : List (BitVec 64)), ((h.map fun n => putL n 8).flatten).length = 8 * h.length
 | [] => rfl
 | n :: h => by simp [putL_length, flat8 h]; omega
theorem outL_length (h : List (BitVec 64)) : (outL h).length = 8 * h.length := flat8 h
def startL (size key : Nat) : List (BitVec 64) := setN firstL 0 (nth firstL 0 ^^^ (((0x01010000#64) ^^^ (BitVec.ofNat 64 key <<< 8)) ^^^ BitVec.ofNat 64 size))
theorem startL_length (size key : Nat) : (startL size key).length = 8 := by rw [startL, setN_length]; rfl
def keyL (key : List Byte) : List Byte := if key.length = 0 then [] else pad key 128
def sumL (size : Nat) (key b : List Byte) : List Byte := (outL (finL (startL size key.length) (keyL key ++ b))).take size
theorem sumL_length (size : Nat) (key b : List Byte) (h : size ≤ 64) : (sumL size key b).length = size := by
 rw [sumL, List.length_take, outL_length, finL_length]; omega
theorem carry_none (n m : Nat) (h : n + m < 18446744073709551616) : carryB (BitVec.ofNat 64 n) (BitVec.ofNat 64 m) 0#64 = 0#64 := by
 have e : ((BitVec.ofNat 64 n).toNat + (BitVec.ofNat 64 m).toNat + (0#64).toNat) / 2 ^ 64 = 0 := by
   rw [BitVec.toNat_ofNat, BitVec.toNat_ofNat]
   show (n % 18446744073709551616 + m % 18446744073709551616 + 0) / 18446744073709551616 = 0
   omega
 rw [carryB, e]
theorem ofNat_plus (n m : Nat) : BitVec.ofNat 64 n + BitVec.ofNat 64 m = BitVec.ofNat 64 (n + m) := (BitVec.ofNat_add n m).symm
def hashC (h : List (BitVec 64)) (n : Nat) (v : Value) (sz : Int) : List Value := h.map v64 ++ ([v64 (BitVec.ofNat 64 n), v64 0#64] ++ ([v] ++ [.int .i64 sz]))
section
variable {h h' : List (BitVec 64)} {n n' : Nat} {v v' : Value} {sz : Int} (hh : h.length = 8)
include hh
theorem hashC_length : (hashC h n v sz).length = 12 := by simp [hashC, hh]
theorem hashC_h : ((hashC h n v sz).drop 0).take 8 = h.map v64 := by
 unfold hashC; rw [List.drop_zero, List.take_append_of_le_length (by simp [hh]), List.take_of_length_le (by simp [hh])]
theorem hashC_cnt : ((hashC h n v sz).drop 8).take 2 = [v64 (BitVec.ofNat 64 n), v64 0#64] := by
 unfold hashC; rw [List.drop_append, List.drop_eq_nil_of_le (by simp [hh]), List.nil_append, List.length_map, hh]; rfl
theorem hashC_rest : (hashC h n v sz)[10]? = some v := by
 unfold hashC; rw [List.getElem?_append_right (by simp [hh])]; simp [hh]
theorem hashC_size : (hashC h n v sz)[11]? = some (.int .i64 sz) := by
 unfold hashC; rw [List.getElem?_append_right (by simp [hh])]; simp [hh]
theorem hashC_set_h (k : h'.length = 8) : (hashC h n v sz).take 0 ++ h'.map v64 ++ (hashC h n v sz).drop (0 + 8) = hashC h' n v sz := by
 unfold hashC; rw [List.take_zero, List.nil_append, Nat.zero_add, List.drop_append, List.drop_eq_nil_of_le (by simp [hh]), List.nil_append, List.length_map, hh, Nat.sub_self, List.drop_zero]
theorem hashC_set_cnt : (hashC h n v sz).take 8 ++ [v64 (BitVec.ofNat 64 n'), v64 0#64] ++ (hashC h n v sz).drop (8 + 2) = hashC h n' v sz := by
 unfold hashC; rw [List.take_append_of_le_length (by simp [hh]), List.take_of_length_le (by simp [hh]), List.drop_append, List.drop_eq_nil_of_le (by simp [hh]), List.nil_append, List.length_map, hh, List.append_assoc]; rfl
theorem hashC_set_rest : (hashC h n v sz).set 10 v' = hashC h n v' sz := by
 unfold hashC; rw [List.set_append_right _ _ (by simp [hh]), List.length_map, hh]; rfl
end
section
variable {P : Program} {ops : Array Oper} {Q : Exit → Act → World → Prop} {rest : List Oper} {dst : Option Tmp} {ty : TypeId} {pos : String} {aft : Array Edge} {gd : Option (Nat × Bool)} {a : Act} {w0 w : World} {L L' : List Blk} {T t : TypeId} {x y : Operand} {g k n : Nat} {cs cs' vs : List Value}
theorem wq_stA (hm : Own w0 w L) (hgd : Region.wanted (Oper.mk dst (.store T x y) ty pos aft gd) (yielded ops a.tmps) = true) (hT : Many P T n) (hx : a.eval x = .pointer (some ⟨g, k, none⟩)) (hy : a.eval y = .agg vs.toArray) (hs : Swap L ⟨g, t, cs⟩ ⟨g, t, cs'⟩ L') (he : cs.take k ++ vs ++ cs.drop (k + n) = cs') (hl : vs.length = n) (hk : k + n ≤ cs.length) (h1 : ∀ v ∈ vs, v.oneCell' = true)
   (hr : ∀ w', Own w0 w' L' → wpList P ops Q rest (a.put dst undef) w') : wpList P ops Q ((Oper.mk dst (.store T x y) ty pos aft gd) :: rest) a w := wpl_stA hm hgd rfl hx hy hs hl hk h1 he hr
end
def blkN (b : List Byte) : List Byte := over (zer 128) 0 (b.take 128)
theorem blkN_length (b : List Byte) : (blkN b).length = 128 := by rw [blkN, over_length _ _ _ (by simp; omega)]; exact zer_length
theorem gb_blkN (b : List Byte) (hb : b.length ≤ 128) (j : Int) : gb (blkN b) j = gb b j := by
 unfold gb blkN over
 split
 · rename_i h0
   generalize j.toNat = i
   rw [List.take_zero, List.nil_append, List.take_of_length_le hb, Nat.zero_add, List.getD_eq_getElem?_getD, List.getD_eq_getElem?_getD]
   by_cases hi : i < b.length
   · rw [List.getElem?_append_left hi]
   · rw [List.getElem?_append_right (by omega), List.getElem?_drop, List.getElem?_eq_none (l := b) (by omega)]
     have : (zer (n := 8) 128)[b.length + (i - b.length)]?.getD 0 = 0 := by
       have := nth_tab_ge (n := 8) (m := 128) (f := fun _ => 0) (i := b.length + (i - b.length))
       by_cases hx : b.length + (i - b.length) < 128
       · have := nth_tab (n := 8) (m := 128) (f := fun _ => 0) hx
         simpa [nth, zer] using this
       · have := this (by omega)
         simpa [nth, zer] using this
     simpa using this
 · rfl
theorem num_blkN (b : List Byte) (hb : b.length ≤ 128) : ∀ (r : Nat) (at_ : Int), num (blkN b) at_ r = num b at_ r := by
 intro r at_
 induction r with
 | zero => rfl
 | succ r ih => simp only [num, gb_blkN b hb, ih]
theorem mL_blkN (b : List Byte) (hb : b.length ≤ 128) : mL (blkN b) = mL b := tab_ext fun i _ => num_blkN b hb 8 _
theorem plus_N (n m : Nat) (h : n + m < 18446744073709551616) (w : World) : Gives Tryz.prog 79 #[.agg #[v64 (BitVec.ofNat 64 n), v64 0#64], .agg #[v64 (BitVec.ofNat 64 m), v64 0#64]] w (.agg #[v64 (BitVec.ofNat 64 (n + m)), v64 0#64]) := by
 have := oplus_any (BitVec.ofNat 64 n) 0#64 (BitVec.ofNat 64 m) 0#64 w
 rwa [carry_none n m h, ofNat_plus] at this
theorem natv64 {a : Nat} (h : a < 18446744073709551616) : Value.int .u64 (a : Int) = v64 (BitVec.ofNat 64 a) := by
 have : (BitVec.ofNat 64 a).toNat = a := by simp; omega
 rw [v64, this]
theorem plus_M (n m : Nat) (h : n + m < 18446744073709551616) (w : World) : Gives Tryz.prog 79 #[.agg #[v64 (BitVec.ofNat 64 n), v64 0#64], .agg #[.int .u64 (m : Int), .int .u64 0]] w (.agg #[v64 (BitVec.ofNat 64 (n + m)), v64 0#64]) := by
 have := plus_N n m h w
 rw [natv64 (a := m) (by omega)]; exact this
set_option maxHeartbeats 2000000 in
theorem hblock_any (g : Nat) (h : List (BitVec 64)) (n : Nat) (v : Value) (sz : Int) (b : List Byte) (p : Option Addr) (c many : Nat) (last : Bool) (hh : h.length = 8) (hb : b.length ≤ 128) (hn : n + many < 9223372036854775808) (w0 w : World) (R : List Blk) (hr : ∀ w' M, Own w0 w' (M ++ R) → RdB w' p b) (hc : CoefB w0) (hv : v.oneCell' = true) (hm : Own w0 w (⟨g, 166, hashC h n v sz⟩ :: R)) :
   Calls Tryz.prog 75 #[.pointer (some ⟨g, 0, none⟩), .slice p b.length c, .int .i64 many, .bool last] w fun e w' => e = .returned (.tuple #[]) ∧ Own w0 w' (⟨g, 166, hashC (compL h (mL b) (BitVec.ofNat 64 (n + many)) 0#64 last) (n + many) v sz⟩ :: R) := by
 have HC := Lib.hid hc
 have HR := Lib.hid hr
 have lB := blkN_length b
 have CC := Lib.hid fun wx hx => compress_any h (blkN b) (BitVec.ofNat 64 (n + many)) 0#64 last hh lB wx hx
 rw [mL_blkN b hb] at CC
 have CP := Lib.hid fun wx => plus_M n many (by omega) wx
 have lC : (compL h (mL b) (BitVec.ofNat 64 (n + many)) 0#64 last).length = 8 := compL_length _ _ _ _ _
 generalize compL h (mL b) (BitVec.ofNat 64 (n + many)) 0#64 last = C at *
 have EB := Lib.hid (show over (zer 128) 0 (b.take 128) = blkN b from rfl)
 generalize blkN b = B at *
 have HH := Lib.hid hh
 have LC := Lib.hid lC
 have lc1 := hashC_length (n := n) (v := v) (sz := sz) hh
 have lc2 := hashC_length (n := n + many) (v := v) (sz := sz) hh
 clear hc hr hh lC
 go_enter Tryz.func75, Tryz.ntmps75
 go_wp2_with (first | ((with_reducible show wpList _ _ _ (Oper.mk _ (Op.call _) _ _ _ _ :: _) _ _); refine wpl_cp8 hm rfl rfl rfl rfl Tryz.underlying22 (by kernel_rfl) (by repeat (first | exact Swap.hd | assumption | apply Swap.tl)) (HR.out _ [_, _] hm) rfl (EB.out) (by simp) ?_; clear hm; intro w hm) | ((with_reducible apply wq_ldN hm); exact rfl; infer_instance; exact rfl; (focus (repeat first | exact .hd | assumption | apply Has.tl); done); (exact hashC_cnt HH.out); exact rfl) | (go_at_call 79; (with_reducible refine (CP.out _).mono ?_); rintro e_ w ⟨rfl, hx_⟩; replace hm := hm.ext hx_; clear hx_) | ((with_reducible apply wq_stA hm); exact rfl; infer_instance; exact rfl; exact rfl; (focus (repeat first | exact .hd | assumption | apply Swap.tl); done); (exact hashC_set_cnt HH.out); exact rfl; (exact (by rw [lc1]; decide)); (exact (by simp [one64])); clear hm; intro w hm) | ((first | ((with_reducible show qAl); first | ((with_reducible apply wq_new hm); exact rfl; infer_instance))); clear hm; intro gx_; intro w hm))
 have HX := Lib.hid hm.x
 refine region_at 14 (fun w' => Ext _ w') 37 (by kernel_rfl) (by kernel_rfl) rfl (fun _ _ h k => h.trans k) (drew_ext _) ?_
 simp only [tSC, List.take_zero, dSC, List.drop_zero, List.map_cons, List.map_nil]
 repeat (first
     | (apply walk_is rfl rfl rfl; (intro wx hwx; (with_reducible apply gq_ldN (hm.ext hwx)); infer_instance; exact rfl; (focus (repeat first | exact .hd | assumption | apply Has.tl); done); (exact hashC_h HH.out); (exact (List.length_map ..).trans HH.out)); (simp only [Act.put, sIB, sCS, sCZ]; rfl))
     | (apply walk_is rfl rfl rfl; (intro wx hwx; (with_reducible apply gq_ldN (hm.ext hwx)); infer_instance; exact rfl; (focus (repeat first | exact .hd | assumption | apply Has.tl); done); (exact hashC_cnt HH.out); exact rfl); (simp only [Act.put, sIB, sCS, sCZ]; rfl))
     | (apply walk_is rfl rfl rfl
        · (intro wx hwx; first | ((with_reducible show gives _ _ _ (Sem.run _ (execOp _ (Oper.mk _ (Op.load _ _) _ _ _ _)) _)); first | ((with_reducible apply gq_ldW (hm.ext hwx)); infer_instance; exact rfl; (focus (repeat first | exact .hd | assumption | apply Has.tl); done); (focus (first | rfl | omega | (simp; done) | (simp; omega))))) | (go_simp; (try go_bits); first | exact gives_same | exact gives_skip | with_reducible exact gives_call (CC.out wx (HC.out.ext (HX.out.trans hwx)))))
        · (simp only [Act.put, sIB, sCS, sCZ]; rfl))
     | (apply walk_not rfl rfl rfl
        · (simp only [Act.put, sIB, sCS, sCZ]; rfl)))
 intro wz hwz
 simp only [zCC, zNR]
 repeat (first | rw [fin_is] | (rw [fin_cons]; intro _ _))
 rw [fin_nil]
 try (replace hm := hm.ext hwz)
 simp only [Act.put, sIB, sCS, sCZ]
 go_wp2_with (first | ((with_reducible apply wq_stA hm); exact rfl; infer_instance; exact rfl; exact rfl; (focus (repeat first | exact .hd | assumption | apply Swap.tl); done); (exact hashC_set_h HH.out LC.out); (exact (List.length_map ..).trans LC.out); (exact (by rw [lc2]; decide)); (exact (one_map _)); clear hm; intro w hm))
 go_end0
 exact ⟨rfl, hm.drop⟩
instance elem8 : Elem Tryz.prog 5 1 1 := Elem.of (by kernel_rfl) (by omega)
def hashK (h0 : List (BitVec 64)) (d : List Byte) (k : Nat) (v : Value) (sz : Int) : List Value := hashC (chF h0 d k) (128 * k) v sz
def RestO (M : List Blk) (d : List Byte) (k : Nat) (v : Value) : Prop := SlO M 5 1 v (d.length - 128 * k) ((d.drop (128 * k)).map v8)
theorem RestO.rdB {M R N : List Blk} {d : List Byte} {k : Nat} {p : Option Addr} {n c : Nat} {w0 w : World} (h : RestO M d k (.slice p n c)) (hm : Own w0 w (N ++ (M ++ R))) : RdB w p (d.drop (128 * k)) := by
 obtain ⟨p', c', hv, _, _, h0, hc⟩ := SlO.cells h hm.dropN
 cases hv
 refine ⟨fun hl => h0 (by simpa using hl), fun i hi => ?_⟩
 obtain ⟨a, rfl, ha⟩ := hc i (v8 ((d.drop (128 * k)).getD i 0)) (by rw [List.getElem?_map, List.getElem?_eq_getElem hi, List.getD_eq_getElem?_getD, List.getElem?_eq_getElem hi]; rfl)
 exact ha
theorem RestO.len {M : List Blk} {d : List Byte} {k : Nat} {p : Option Addr} {n c : Nat} (h : RestO M d k (.slice p n c)) : n = d.length - 128 * k ∧ n ≤ c ∧ c ≤ maxLen := by
 rcases h.2 with ⟨h1, h2, _⟩ | ⟨g, o, cap, cur, h1, _, h2, h3, _⟩
 · cases h1; exact ⟨h2.symm, Nat.le_refl _, by simp⟩
 · cases h1; exact ⟨rfl, h2, h3⟩
theorem RestO.one {M : List Blk} {d : List Byte} {k : Nat} {v : Value} (h : RestO M d k v) : v.oneCell' = true ∧ v.cells = #[v] := by
 rcases h.2 with ⟨h1, _⟩ | ⟨g, o, cap, cur, h1, _⟩ <;> subst h1 <;> exact ⟨rfl, rfl⟩
theorem RestO.slice {M : List Blk} {d : List Byte} {k : Nat} {v : Value} (h : RestO M d k v) : ∃ p n c, v = .slice p n c := by
 rcases h.2 with ⟨h1, _⟩ | ⟨g, o, cap, cur, h1, _⟩ <;> exact ⟨_, _, _, h1⟩
def restLen (g : Nat) (w : World) : Nat := match w.cell? ⟨g, 10, none⟩ with | some (.slice _ n _) => n | _ => 0
theorem restLen_is {g : Nat} {w : World} {p : Option Addr} {n c : Nat} (h : w.cell? ⟨g, 10, none⟩ = some (.slice p n c)) : restLen g w = n := by rw [restLen, h]
theorem hashK_rest {h0 : List (BitVec 64)} {d : List Byte} {k : Nat} {v : Value} {sz : Int} (hh : h0.length = 8) : (hashK h0 d k v sz)[10]? = some v := hashC_rest (chF_length h0 d hh k)
theorem hashK_set {h0 : List (BitVec 64)} {d : List Byte} {k : Nat} {v v' : Value} {sz : Int} (hh : h0.length = 8) : (hashK h0 d k v sz).set 10 v' = hashK h0 d k v' sz := hashC_set_rest (chF_length h0 d hh k)
theorem hashK_length {h0 : List (BitVec 64)} {d : List Byte} {k : Nat} {v : Value} {sz : Int} (hh : h0.length = 8) : (hashK h0 d k v sz).length = 12 := hashC_length (chF_length h0 d hh k)
theorem hashK_append {h0 : List (BitVec 64)} {d b : List Byte} {k : Nat} {v : Value} {sz : Int} (hk : 128 * k ≤ d.length) : hashK h0 (d ++ b) k v sz = hashK h0 d k v sz := by rw [hashK, chF_append _ _ _ _ hk]; rfl
theorem cells_b {w : World} {p : Option Addr} {b : List Byte} (h : RdB w p b) : ∀ (j : Nat) (u : Value), (b.map v8)[j]? = some u → ∃ a, p = some a ∧ w.cell? (a.add j) = some u := by
 intro j u hj
 rw [List.getElem?_map] at hj
 obtain ⟨x, hx, rfl⟩ := Option.map_eq_some_iff.1 hj
 obtain ⟨hlt, hx'⟩ := List.getElem?_eq_some_iff.1 hx
 obtain ⟨a, rfl⟩ := Option.isSome_iff_exists.1 (h.1 (by omega))
 refine ⟨a, rfl, ?_⟩
 have := h.2 j hlt
 simp only [Option.getD_some] at this
 rw [this, List.getD_eq_getElem?_getD, hx]; rfl
set_option maxHeartbeats 2000000 in
theorem write_any (g : Nat) (h0 : List (BitVec 64)) (d : List Byte) (sz : Int) (b : List Byte) (p : Option Addr) (c : Nat) (hh : h0.length = 8) (hlen : d.length + b.length ≤ 70368744177664) (w0 w : World) (M R : List Blk) (v : Value) (hc : CoefB w0) (hb : RdB w p b)
   (hm : Own w0 w (⟨g, 166, hashK h0 d (nbk d.length) v sz⟩ :: (M ++ R))) (hsl : RestO M d (nbk d.length) v) :
   Calls Tryz.prog 63 #[.pointer (some ⟨g, 0, none⟩), .slice p b.length c] w fun e w' => e = .returned (.tuple #[]) ∧ ∃ v' M', Own w0 w' (⟨g, 166, hashK h0 (d ++ b) (nbk (d ++ b).length) v' sz⟩ :: (M' ++ R)) ∧ RestO M' (d ++ b) (nbk (d ++ b).length) v' := by
 have HC := Lib.hid hc
 have HH := Lib.hid hh
 have HB := Lib.hid hb
 have HS := Lib.hid hsl
 have l1 := hashK_length (d := d) (k := nbk d.length) (v := v) (sz := sz) hh
 have LEN := Lib.hid hlen
 have k0 := nbk_le d.length
 clear hc hh hb hsl hlen
 go_enter Tryz.func63, Tryz.ntmps63
 have FIT := Lib.hid (show (d.length - 128 * nbk d.length + b.length) * (1 + 1) ≤ 140737488355328 by have := LEN.out; omega)
 obtain ⟨D, hD⟩ : ∃ D, d ++ b = D := ⟨_, rfl⟩
 have lD : D.length = d.length + b.length := by rw [← hD, List.length_append]
 have hD46 : D.length ≤ 70368744177664 := by have := LEN.out; omega
 have HD := Lib.hid hD
 have hk0 : nbk d.length ≤ nbk D.length := nbk_mono (by omega)
 rw [hD]
 refine wp_scope_goto 0 (fun a_ w_ => ∃ (k : Nat) (v : Value) (M : List Blk) (u2 u3 u4 u5 u6 u7 u8 u9 u10 u11 u12 u13 u14 u15 u16 u17 u18 u19 u20 u21 u22 u23 u24 u25 u26 u27 u28 u29 u30 u31 u32 u33 u34 u35 : Value), a_ = { tmps := #[(.pointer (some ⟨g, 0, none⟩)), (.slice p b.length c), u2, u3, u4, u5, u6, u7, u8, u9, u10, u11, u12, u13, u14, u15, u16, u17, u18, u19, u20, u21, u22, u23, u24, u25, u26, u27, u28, u29, u30, u31, u32, u33, u34, u35], defers := [] } ∧ k ≤ nbk D.length ∧ Own w0 w_ (⟨g, 166, hashK h0 D k v sz⟩ :: (M ++ R)) ∧ RestO M D k v) (fun _ w_ => restLen g w_) rfl ?_ ?_
 · clear hm
   rintro a' w ⟨k, v, M, u2, u3, u4, u5, u6, u7, u8, u9, u10, u11, u12, u13, u14, u15, u16, u17, u18, u19, u20, u21, u22, u23, u24, u25, u26, u27, u28, u29, u30, u31, u32, u33, u34, u35, rfl, ⟨hk, hm, hsl⟩⟩
   obtain ⟨q, n, cap, rfl⟩ := hsl.slice
   obtain ⟨hn, hnc, hcm⟩ := hsl.len
   have hrl : restLen g w = n := restLen_is (by rw [row_cell (hm.row (by repeat (first | exact Has.hd | assumption | apply Has.tl)))]; exact hashK_rest HH.out)
   have HRL := Lib.hid hrl
   have lk := nbk_le D.length
   have HK := Lib.hid hk
   have HL := Lib.hid lk
   have HN := Lib.hid hn
   have LD := Lib.hid lD
   have HS2 := Lib.hid hsl
   have lh := hashK_length (d := D) (k := k) (v := .slice q n cap) (sz := sz) HH.out
   clear hrl hk lk hn lD hsl
   by_cases hle : n ≤ 128
   · have hke : k = nbk D.length := by
       have h1 := HK.out
       have h2 := HN.out
       rcases Nat.lt_or_ge k (nbk D.length) with h | h
       · have := nbk_lt _ k h; omega
       · omega
     have hd : decide ((n : Int) ≤ 128) = true := by simp; omega
     have hd2 : (n : Int) ≤ 128 := by omega
     go_wp2_with (first | ((with_reducible apply wq_ld1 hm); exact rfl; infer_instance; exact rfl; (focus (repeat first | exact .hd | assumption | apply Has.tl); done); (exact hashK_rest HH.out)))
     simp only [Exit.jump]
     refine bodyPost_ret (results_none rfl _ _ _) rfl ?_
     subst hke
     exact ⟨rfl, _, _, hm, HS2.out⟩
   · have hd : decide ((n : Int) ≤ 128) = false := by simp; omega
     have hd2 : ¬ (n : Int) ≤ 128 := by omega
     have hcap : 128 ≤ (cap : Int) := by omega
     have hc128 : ¬ cap = 128 := by omega
     have lh2 := hashK_length (d := D) (k := k + 1) (v := .slice q n cap) (sz := sz) HH.out
     have hn128 : (128 : Int) ≤ (n : Int) := by omega
     have hcap2 : (cap : Int) ≤ 9223372036854775807 := by unfold maxLen at hcm; omega
     have lb : (bkAt D k).length = 128 := by have := HN.out; unfold bkAt; rw [List.length_take, List.length_drop]; omega
     have hkl : k < nbk D.length := by
       rcases Nat.lt_or_ge k (nbk D.length) with h | h
       · exact h
       · have := nbk_ge D.length k h; have := HN.out; omega
     have CB := fun wx hx => hblock_any g (chF h0 D k) (128 * k) (.slice q n cap) sz (bkAt D k) q cap 128 false (chF_length h0 D HH.out k) (by omega) (by have := HL.out; have := hD46; omega) w0 wx (M ++ R) (fun w' N h => (HS2.out.rdB h).take 128) HC.out rfl hx
     rw [lb, show ((128 : Nat) : Int) = 128 from rfl] at CB
     have CB2 := Lib.hid CB
     obtain ⟨g', o, rfl⟩ : ∃ g' o, q = some ⟨g', o, none⟩ := by
       rcases HS2.out.2 with ⟨h1, h2, _⟩ | ⟨g', o, cap', cur, h1, _⟩
       · cases h1; omega
       · cases h1; exact ⟨_, _, rfl⟩
     clear CB lb
     go_wp2_with (first | ((with_reducible apply wq_ld1 hm); exact rfl; infer_instance; exact rfl; (focus (repeat first | exact .hd | assumption | apply Has.tl); done); (exact hashK_rest HH.out)) | (go_at_call 75; (with_reducible refine (CB2.out _ hm).mono ?_); clear hm; rintro e_ w ⟨rfl, hm⟩; replace hm : Own w0 w (⟨g, 166, hashK h0 D (k + 1) (.slice (some ⟨g', o, none⟩) n cap) sz⟩ :: (M ++ R)) := hm) | ((((with_reducible show qSt); first | ((with_reducible apply wq_st1 hm); exact rfl; infer_instance; exact rfl; exact rfl; exact rfl; exact rfl; (focus (repeat first | exact .hd | assumption | apply Swap.tl); done); (focus (first | omega | (simp; omega) | (refine ltB ?_; first | omega | (simp; done) | (simp; omega))))))); clear hm; intro w hm))
     have hm2 : Own w0 w (⟨g, 166, hashK h0 D (k + 1) (.slice (some ⟨g', o + 128, none⟩) (n - 128) (cap - 128)) sz⟩ :: (M ++ R)) := by
       rw [hashK_set HH.out] at hm; exact hm
     have hs3 : RestO M D (k + 1) (.slice (some ⟨g', o + 128, none⟩) (n - 128) (cap - 128)) := by
       have h1 := HN.out
       have h2 : SlO M 5 1 (.slice (some ⟨g', o, none⟩) n cap) n ((D.drop (128 * k)).map v8) := by have := HS2.out; unfold RestO at this; rwa [← h1] at this
       have h3 := h2.behind (k := 128) (by omega)
       unfold RestO
       rw [show D.length - 128 * (k + 1) = n - 128 from by omega, show 128 * (k + 1) = 128 * k + 128 from by omega, ← List.drop_drop, List.map_drop]
       exact h3
     have hrl : restLen g w = n - 128 := restLen_is (by rw [row_cell (hm2.row (by repeat (first | exact Has.hd | assumption | apply Has.tl)))]; exact hashK_rest HH.out)
     have HRL2 := Lib.hid hrl
     clear hrl hm
     go_step3
     exact ⟨rfl, ⟨_, _, _, _, _, _, _, _, _, _, _, _, _, _, _, _, _, _, _, _, _, _, _, _, _, _, _, _, _, _, _, _, _, _, _, _, _, rfl, ⟨hkl, hm2, hs3⟩⟩, by rw [HRL.out, HRL2.out]; omega⟩
 · intro hp
   go_wp2_with (first | ((with_reducible apply wq_ld1 hm); exact rfl; infer_instance; exact rfl; (focus (repeat first | exact .hd | assumption | apply Has.tl); done); (exact hashK_rest HH.out)) | ((with_reducible show wpList _ _ _ (Oper.mk _ (Op.call _) _ _ _ _ :: _) _ _); refine wplO_app (M := M) (R := ⟨g, 166, hashK h0 d (nbk d.length) v sz⟩ :: R) (ds := b.map v8) (hm.perm (List.perm_middle.symm)) HS.out rfl rfl rfl rfl Tryz.underlying22 (by simp) (cells_b HB.out) (one_map _) FIT.out ?_; clear hm; intro v1 w M1 hm hs1; obtain ⟨p_v1, c_v1, rfl⟩ := hs1.form; replace hm := hm.perm (List.perm_middle)) | ((((with_reducible show qSt); first | ((with_reducible apply wq_st1 hm); exact rfl; infer_instance; exact rfl; exact rfl; exact rfl; exact rfl; (focus (repeat first | exact .hd | assumption | apply Swap.tl); done); (focus (first | omega | (simp; omega) | (refine ltB ?_; first | omega | (simp; done) | (simp; omega))))))); clear hm; intro w hm))
   have hm2 : Own w0 w (⟨g, 166, hashK h0 d (nbk d.length) (.slice p_v1 (d.length - 128 * nbk d.length + b.length) c_v1) sz⟩ :: (M1 ++ R)) := by
     rw [hashK_set HH.out] at hm; exact hm
   rw [← hashK_append (b := b) k0, HD.out] at hm2
   have hs2 : RestO M1 D (nbk d.length) (.slice p_v1 (d.length - 128 * nbk d.length + b.length) c_v1) := by
     unfold RestO
     rw [← HD.out, List.drop_append_of_le_length k0, List.map_append, List.length_append, show d.length + b.length - 128 * nbk d.length = d.length - 128 * nbk d.length + b.length from by omega]
     exact hs1
   go_step3
   rename_i hK
   exact hK _ _ (hp _ _ ⟨_, _, _, _, _, _, _, _, _, _, _, _, _, _, _, _, _, _, _, _, _, _, _, _, _, _, _, _, _, _, _, _, _, _, _, _, _, rfl, ⟨hk0, hm2, hs2⟩⟩)
structure KeyP where
 i : List Byte
 j : List Byte
 l : List Byte
structure KeyP.Ok (K : KeyP) : Prop where
 hi : K.i.length = 16
 hj : K.j.length = 16
 hl : K.l.length = 16
def keyB (key : List Byte) : List Byte := if key.length = 48 then key else sumL 48 [] key
theorem keyB_length (key : List Byte) : (keyB key).length = 48 := by
 unfold keyB; split
 · assumption
 · exact sumL_length _ _ _ (by omega)
def keyOf (key : List Byte) : KeyP := ⟨blk (keyB key), blk ((keyB key).drop 16), blk ((keyB key).drop 32)⟩
theorem keyOf_ok (key : List Byte) : (keyOf key).Ok := ⟨blk_length _, blk_length _, blk_length _⟩
theorem gb_nth (l : List Byte) (i : Nat) : gb l i = nth l i := gb_in l i
theorem blk_nth (l : List Byte) (i : Nat) (h : i < 16) : nth (blk l) i = nth l i := by
 rw [← gb_nth l i]; simp [nth, blk, h]
theorem blk_eq (l m : List Byte) (h : ∀ i, i < 16 → nth l i = nth m i) : blk l = blk m := nth_ext (by rw [blk_length, blk_length]) fun i hi => by
 rw [blk_length] at hi; rw [blk_nth _ _ hi, blk_nth _ _ hi, h i hi]
theorem blk_self (l : List Byte) (h : l.length = 16) : blk l = l := nth_ext (by rw [blk_length, h]) fun i hi => by rw [blk_length] at hi; exact blk_nth _ _ hi
def KeyP.at (K : KeyP) (n : Int) : List Byte := if n = 0 then K.i else if n = 1 then K.j else if n = 2 then K.l else zer 16
theorem KeyP.at_length {K : KeyP} (h : K.Ok) (n : Int) : (K.at n).length = 16 := by
 unfold KeyP.at; split
 · exact h.hi
 · split
   · exact h.hj
   · split
     · exact h.hl
     · exact zer_length
def upN (i : Nat) : Nat := i / 8 + min (i % 8) 1
def offN (K : KeyP) (j i : Nat) : List Byte := bothL (bothL (mulL (BitVec.ofNat 64 j) K.j) (dblN K.i (upN i))) (mulL (BitVec.ofNat 64 (i % 8)) K.l)
theorem offN_length (K : KeyP) (j i : Nat) : (offN K j i).length = 16 := bothL_length _ _
def fourK (K : KeyP) : List (List Byte) := [K.j, K.i, K.l, zer 16]
def tenK (K : KeyP) : List (List Byte) := [K.i, K.j, K.l, K.i, K.j, K.l, K.i, K.j, K.l, K.i]
def eN (K : KeyP) (j i : Nat) (x : List Byte) : List Byte := rnds (bothL x (offN K j i)) (fourK K)
def eT (K : KeyP) (i : Nat) (x : List Byte) : List Byte := rnds (bothL x (mulL (BitVec.ofNat 64 i) K.l)) (tenK K)
def eZ (K : KeyP) (j i : Int) (x : List Byte) : List Byte := if j < -1 ∨ i < 0 then zer 16 else if j < 0 then eT K i.toNat x else eN K j.toNat i.toNat x
def offZ (K : KeyP) (j i : Int) : List Byte := if j < 0 ∨ i < 0 then zer 16 else offN K j.toNat i.toNat
theorem eN_length (K : KeyP) (j i : Nat) (x : List Byte) : (eN K j i x).length = 16 := rnds_length _ _ (bothL_length _ _)
theorem eT_length (K : KeyP) (i : Nat) (x : List Byte) : (eT K i x).length = 16 := rnds_length _ _ (bothL_length _ _)
theorem eZ_length (K : KeyP) (j i : Int) (x : List Byte) : (eZ K j i x).length = 16 := by
 unfold eZ; split
 · exact zer_length
 · split
   · exact eT_length _ _ _
   · exact eN_length _ _ _ _
def partF (F : Int → List Byte → List Byte) (b : List Byte) : Nat → List Byte
 | 0 => zer 16
 | n + 1 => bothL (partF F b n) (F ((n : Int) + 1) (blk (b.drop (16 * n))))
theorem partF_length (F : Int → List Byte → List Byte) (b : List Byte) : ∀ n, (partF F b n).length = 16
 | 0 => zer_length
 | _ + 1 => bothL_length _ _
def partG (F : Int → List Byte → List Byte) (b : List Byte) : List Byte :=
 if b.length = 0 ∨ b.length % 16 ≠ 0 then bothL (partF F b (b.length / 16)) (F 0 (blk (b.drop (16 * (b.length / 16)) ++ [128#8]))) else partF F b (b.length / 16)
theorem partG_length (F : Int → List Byte → List Byte) (b : List Byte) : (partG F b).length = 16 := by
 unfold partG; split
 · exact bothL_length _ _
 · exact partF_length _ _ _
theorem blk_marked (l : List Byte) (h : l.length < 16) : blk (marked l 128#8 16) = blk (l ++ [128#8]) := blk_eq _ _ fun i _ => by
 unfold marked pad
 by_cases h1 : i < (l ++ [128#8]).length
 · simp only [nth, List.getD_eq_getElem?_getD]
   rw [List.getElem?_append_left h1]
 · rw [nth_ge (l := l ++ [128#8]) (by omega)]
   simp only [nth, List.getD_eq_getElem?_getD]
   rw [List.getElem?_append_right (by omega), List.getElem?_replicate]
   split <;> rfl
def hashF (F : Int → Int → List Byte → List Byte) (ls : List (List Byte)) : Nat → List Byte
 | 0 => zer 16
 | n + 1 => bothL (hashF F ls n) (partG (F ((n : Int) + 3)) (ls.getD n []))
theorem hashF_length (F : Int → Int → List Byte → List Byte) (ls : List (List Byte)) : ∀ n, (hashF F ls n).length = 16
 | 0 => zer_length
 | _ + 1 => bothL_length _ _
def hashG (F : Int → Int → List Byte → List Byte) (ls : List (List Byte)) : List Byte := hashF F ls ls.length
theorem hashG_length (F : Int → Int → List Byte → List Byte) (ls : List (List Byte)) : (hashG F ls).length = 16 := hashF_length _ _ _
def cntL (h : List Byte) (n : Nat) : List Byte := tab 16 fun q => if 8 ≤ q then nth h q ^^^ nth (putL (BitVec.ofNat 64 n) 8) (15 - q) else nth h q
def prfF (E : List Byte → List Byte) (h : List Byte) : Nat → List Byte
 | 0 => []
 | i + 1 => prfF E h i ++ E (cntL h i)
def prfN (n : Nat) : Nat := (n + 15) / 16
def prfL (E : List Byte → List Byte) (h : List Byte) (n : Nat) : List Byte := (prfF E h (prfN n)).take n
instance elemK : Elem Tryz.prog 94 16 16 := Elem.of (by kernel_rfl) (by omega)
def KeysS (ks : List (List Byte)) : Slot := fun v w => ∃ p c, v = .slice p ks.length c ∧ ks.length ≤ c ∧ RdK w p 16 ks
theorem KeysS.stable (ks : List (List Byte)) : Stable (KeysS ks) := fun _ _ _ ⟨p, c, h1, h2, h3⟩ hx => ⟨p, c, h1, h2, h3.ext hx⟩
theorem keys_new (w : World) (e : TypeId) (ks : List (List Byte)) (h : ∀ k ∈ ks, k.length = 16) : KeysS ks (.slice (some ⟨w.heap.size, 0, none⟩) ks.length ks.length) (w.alloc (.cells (catV ks).toArray e)) :=
 ⟨_, _, rfl, Nat.le_refl _, h, RdB.of_row (row_new w e (catV ks))⟩
theorem len16 (b : List Byte) (h : b.length = 16) : ∃ x0 x1 x2 x3 x4 x5 x6 x7 x8 x9 x10 x11 x12 x13 x14 x15, b = [x0, x1, x2, x3, x4, x5, x6, x7, x8, x9, x10, x11, x12, x13, x14, x15] := by
 match b, h with
 | [x0, x1, x2, x3, x4, x5, x6, x7, x8, x9, x10, x11, x12, x13, x14, x15], _ => exact ⟨x0, x1, x2, x3, x4, x5, x6, x7, x8, x9, x10, x11, x12, x13, x14, x15, rfl⟩
theorem slo_rdK {w0 w : World} {M R : List Blk} {p : Option Addr} {n c : Nat} {e : TypeId} {ks : List (List Byte)} (h : SlO M e 16 (.slice p n c) n (catV ks)) (hk : ∀ k ∈ ks, k.length = 16) (hm : Own w0 w (M ++ R)) : RdK w p 16 ks ∧ n = ks.length ∧ n ≤ c := by
 have hl := h.1
 rw [catV_length 16 ks hk] at hl
 obtain ⟨_, _, hv, hnc, _, h0, hcell⟩ := h.cells hm
 cases hv
 have hn : n = ks.length := by omega
 refine ⟨⟨hk, fun hp => h0 ?_, fun i hi => ?_⟩, hn, hnc⟩
 · rcases Nat.eq_zero_or_pos ks.length with h1 | h1
   · rw [List.eq_nil_of_length_eq_zero h1] at hp; simp at hp
   · omega
 · obtain ⟨a, rfl, ha⟩ := hcell i (v8 (ks.flatten.getD i 0)) (by rw [catV, List.getElem?_map, List.getElem?_eq_getElem hi, List.getD_eq_getElem?_getD, List.getElem?_eq_getElem hi]; rfl)
   exact ha
theorem bs_run1 (a : List Byte) (ha : a.length = 16) (w : World) : (Instr.buildSlice 138 1 #[(0, A8 a)]).run Tryz.prog w = .ok (.slice (some ⟨w.heap.size, 0, none⟩) 1 1) (w.alloc (.cells (catV [a]).toArray 94)) := by
 obtain ⟨a0, a1, a2, a3, a4, a5, a6, a7, a8, a9, a10, a11, a12, a13, a14, a15, rfl⟩ := len16 a ha
 kernel_rfl
theorem bs_run2 (a b : List Byte) (ha : a.length = 16) (hb : b.length = 16) (w : World) : (Instr.buildSlice 138 2 #[(0, A8 a), (1, A8 b)]).run Tryz.prog w = .ok (.slice (some ⟨w.heap.size, 0, none⟩) 2 2) (w.alloc (.cells (catV [a, b]).toArray 94)) := by
 obtain ⟨a0, a1, a2, a3, a4, a5, a6, a7, a8, a9, a10, a11, a12, a13, a14, a15, rfl⟩ := len16 a ha
 obtain ⟨b0, b1, b2, b3, b4, b5, b6, b7, b8, b9, b10, b11, b12, b13, b14, b15, rfl⟩ := len16 b hb
 kernel_rfl
theorem bs_run4 (a b c d : List Byte) (ha : a.length = 16) (hb : b.length = 16) (hc : c.length = 16) (hd : d.length = 16) (w : World) : (Instr.buildSlice 138 4 #[(0, A8 a), (1, A8 b), (2, A8 c), (3, A8 d)]).run Tryz.prog w = .ok (.slice (some ⟨w.heap.size, 0, none⟩) 4 4) (w.alloc (.cells (catV [a, b, c, d]).toArray 94)) := by
 obtain ⟨a0, a1, a2, a3, a4, a5, a6, a7, a8, a9, a10, a11, a12, a13, a14, a15, rfl⟩ := len16 a ha
 obtain ⟨b0, b1, b2, b3, b4, b5, b6, b7, b8, b9, b10, b11, b12, b13, b14, b15, rfl⟩ := len16 b hb
 obtain ⟨c0, c1, c2, c3, c4, c5, c6, c7, c8, c9, c10, c11, c12, c13, c14, c15, rfl⟩ := len16 c hc
 obtain ⟨d0, d1, d2, d3, d4, d5, d6, d7, d8, d9, d10, d11, d12, d13, d14, d15, rfl⟩ := len16 d hd
 kernel_rfl
section
variable {P : Program} {ops : Array Oper} {Q : Exit → Act → World → Prop} {rest : List Oper} {dst : Option Tmp} {ty : TypeId} {pos : String} {aft : Array Edge} {gd : Option (Nat × Bool)} {a : Act} {w0 w : World} {L : List Blk} {T e : TypeId}
theorem gq_bs1 {u0 : Value} {x0 : Operand} {ks : List (List Byte)} (hk : ∀ k ∈ ks, k.length = 16) (hb : (Instr.buildSlice T 1 #[(0, u0)]).run P w = .ok (.slice (some ⟨w.heap.size, 0, none⟩) ks.length ks.length) (w.alloc (.cells (catV ks).toArray e))) (hx0 : a.eval x0 = u0) : gives P w (KeysS ks) ((execOp a.eval (Oper.mk dst (.buildSlice T 1 #[(0, x0)]) ty pos aft gd)).run P w) := by
 unfold execOp
 simp [hx0, hb]
 exact gives_val (Ext.alloc (Ext.refl _) _) (keys_new w e ks hk)
theorem wq_bs1 {u0 : Value} {x0 : Operand} {ks : List (List Byte)} (hm : Own w0 w L) (hb : (Instr.buildSlice T 1 #[(0, u0)]).run P w = .ok (.slice (some ⟨w.heap.size, 0, none⟩) 1 1) (w.alloc (.cells (catV ks).toArray e))) (hgd : Region.wanted (Oper.mk dst (.buildSlice T 1 #[(0, x0)]) ty pos aft gd) (yielded ops a.tmps) = true) (hx0 : a.eval x0 = u0) (hr : ∀ g w', Own w0 w' (⟨g, e, catV ks⟩ :: L) → wpList P ops Q rest (a.put dst (.slice (some ⟨g, 0, none⟩) 1 1)) w') : wpList P ops Q ((Oper.mk dst (.buildSlice T 1 #[(0, x0)]) ty pos aft gd) :: rest) a w :=
 wpList_want hgd fun K hK => by
   unfold Oper.wp execOp
   simp [hx0, hb, Sem.run_bind, Result.andThen_ok, Sem.run_pure]
   exact hK _ _ (hr _ _ (hm.alloc e (catV ks)))
theorem gq_bs2 {u0 u1 : Value} {x0 x1 : Operand} {ks : List (List Byte)} (hk : ∀ k ∈ ks, k.length = 16) (hb : (Instr.buildSlice T 2 #[(0, u0), (1, u1)]).run P w = .ok (.slice (some ⟨w.heap.size, 0, none⟩) ks.length ks.length) (w.alloc (.cells (catV ks).toArray e))) (hx0 : a.eval x0 = u0) (hx1 : a.eval x1 = u1) : gives P w (KeysS ks) ((execOp a.eval (Oper.mk dst (.buildSlice T 2 #[(0, x0), (1, x1)]) ty pos aft gd)).run P w) := by
 unfold execOp
 simp [hx0, hx1, hb]
 exact gives_val (Ext.alloc (Ext.refl _) _) (keys_new w e ks hk)
theorem wq_bs2 {u0 u1 : Value} {x0 x1 : Operand} {ks : List (List Byte)} (hm : Own w0 w L) (hb : (Instr.buildSlice T 2 #[(0, u0), (1, u1)]).run P w = .ok (.slice (some ⟨w.heap.size, 0, none⟩) 2 2) (w.alloc (.cells (catV ks).toArray e))) (hgd : Region.wanted (Oper.mk dst (.buildSlice T 2 #[(0, x0), (1, x1)]) ty pos aft gd) (yielded ops a.tmps) = true) (hx0 : a.eval x0 = u0) (hx1 : a.eval x1 = u1) (hr : ∀ g w', Own w0 w' (⟨g, e, catV ks⟩ :: L) → wpList P ops Q rest (a.put dst (.slice (some ⟨g, 0, none⟩) 2 2)) w') : wpList P ops Q ((Oper.mk dst (.buildSlice T 2 #[(0, x0), (1, x1)]) ty pos aft gd) :: rest) a w :=
 wpList_want hgd fun K hK => by
   unfold Oper.wp execOp
   simp [hx0, hx1, hb, Sem.run_bind, Result.andThen_ok, Sem.run_pure]
   exact hK _ _ (hr _ _ (hm.alloc e (catV ks)))
theorem gq_bs4 {u0 u1 u2 u3 : Value} {x0 x1 x2 x3 : Operand} {ks : List (List Byte)} (hk : ∀ k ∈ ks, k.length = 16) (hb : (Instr.buildSlice T 4 #[(0, u0), (1, u1), (2, u2), (3, u3)]).run P w = .ok (.slice (some ⟨w.heap.size, 0, none⟩) ks.length ks.length) (w.alloc (.cells (catV ks).toArray e))) (hx0 : a.eval x0 = u0) (hx1 : a.eval x1 = u1) (hx2 : a.eval x2 = u2) (hx3 : a.eval x3 = u3) : gives P w (KeysS ks) ((execOp a.eval (Oper.mk dst (.buildSlice T 4 #[(0, x0), (1, x1), (2, x2), (3, x3)]) ty pos aft gd)).run P w) := by
 unfold execOp
 simp [hx0, hx1, hx2, hx3, hb]
 exact gives_val (Ext.alloc (Ext.refl _) _) (keys_new w e ks hk)
end
end Go.Proofs.YtdmgchdhilcncaaGreatDoor
