/-
  Texts of the program, walked, and plain ones. Conditions: those written in each theorem.
-/
import Derived.Test.YtneacgpmjlocjaaGreatDoorZTopWrapped0
import Derived.WalkKit
import Derived.WalkSpells
import Derived.WalkLawsBesides
import Derived.Lib.Hide
set_option linter.unusedSimpArgs false
set_option linter.unusedVariables false
set_option maxHeartbeats 16000000
namespace Go.Proofs.YtneacgpmjlocjaaGreatDoor
open Go Go.RowKit
set_option maxRecDepth 100000
def v8(x:BitVec 8):Value:= .int .u8 x.toNat
def v16(x:BitVec 16):Value:= .int .u16 x.toNat
def v32(x:BitVec 32):Value:= .int .u32 x.toNat
def v64(x:BitVec 64):Value:= .int .u64 x.toNat
section wraps
theorem wrap_u(k:IntKind)(hk:k.signed=false)(n:Int):k.wrap n=((BitVec.ofInt k.bits n).toNat:Int):=by
 cases k<;>simp [IntKind.signed]at hk<;>simp [IntKind.wrap,IntKind.bits,IntKind.signed]<;>omega
theorem int8(n:Int):Value.int .u8 (IntKind.u8.wrap n)=v8 (BitVec.ofInt 8 n):=congrArg _ (wrap_u .u8 rfl n)
theorem int16(n:Int):Value.int .u16 (IntKind.u16.wrap n)=v16 (BitVec.ofInt 16 n):=congrArg _ (wrap_u .u16 rfl n)
theorem int32(n:Int):Value.int .u32 (IntKind.u32.wrap n)=v32 (BitVec.ofInt 32 n):=congrArg _ (wrap_u .u32 rfl n)
theorem int64(n:Int):Value.int .u64 (IntKind.u64.wrap n)=v64 (BitVec.ofInt 64 n):=congrArg _ (wrap_u .u64 rfl n)
theorem ofInt_nat {w:Nat}(x:BitVec w):BitVec.ofInt w (x.toNat:Int)=x:=by
 apply BitVec.eq_of_toNat_eq;simp
theorem ofInt_nat'(w:Nat)(n:Nat):BitVec.ofInt w (n:Int)=BitVec.ofNat w n:=by
 apply BitVec.eq_of_toNat_eq;simp
theorem ofInt_sub(w:Nat)(a b:Int):BitVec.ofInt w (a-b)=BitVec.ofInt w a-BitVec.ofInt w b:=by
 rw [Int.sub_eq_add_neg,BitVec.ofInt_add,BitVec.ofInt_neg,BitVec.sub_eq_add_neg]
theorem ofInt_pow(w n:Nat)(x:BitVec w):BitVec.ofInt w ((x.toNat:Int)*2^n)=x<<<n:=by
 apply BitVec.eq_of_toNat_eq
 simp only [BitVec.toNat_ofInt,BitVec.toNat_shiftLeft,Nat.shiftLeft_eq]
 have:((x.toNat:Int)*2^n)=((x.toNat*2^n:Nat):Int):=by simp
 rw [this,←Int.natCast_emod,Int.toNat_natCast]
end wraps
section w8
variable (t ty:TypeId) (x y:BitVec 8) (n:Int) (op:BinOp)
theorem intBits_and8(n m:Int):Op.intBits .and .u8 n m=pure (v8 (BitVec.ofInt 8 n&&&BitVec.ofInt 8 m)):=by
 show pure (Value.int .u8 (IntKind.u8.wrap ((BitVec.ofInt 8 n&&&BitVec.ofInt 8 m).toNat:Nat)))=_
 rw [int8,ofInt_nat]
@[go_sem] theorem and8_vv : binOp .and t (v8 x) (v8 y) = pure (v8 ((x) &&& (y))) := by
 simp only [v8,binOp_and,intBits_and8,ofInt_nat]
@[go_sem] theorem and8_vi : binOp .and t (v8 x) (.int .u8 n) = pure (v8 ((x) &&& (BitVec.ofInt 8 n))) := by
 simp only [v8,binOp_and,intBits_and8,ofInt_nat]
@[go_sem] theorem and8_iv : binOp .and t (.int .u8 n) (v8 y) = pure (v8 ((BitVec.ofInt 8 n) &&& (y))) := by
 simp only [v8,binOp_and,intBits_and8,ofInt_nat]
theorem intBits_or8(n m:Int):Op.intBits .or .u8 n m=pure (v8 (BitVec.ofInt 8 n|||BitVec.ofInt 8 m)):=by
 show pure (Value.int .u8 (IntKind.u8.wrap ((BitVec.ofInt 8 n|||BitVec.ofInt 8 m).toNat:Nat)))=_
 rw [int8,ofInt_nat]
@[go_sem] theorem or8_vv : binOp .or t (v8 x) (v8 y) = pure (v8 ((x) ||| (y))) := by
 simp only [v8,binOp_or,intBits_or8,ofInt_nat]
@[go_sem] theorem or8_vi : binOp .or t (v8 x) (.int .u8 n) = pure (v8 ((x) ||| (BitVec.ofInt 8 n))) := by
 simp only [v8,binOp_or,intBits_or8,ofInt_nat]
@[go_sem] theorem or8_iv : binOp .or t (.int .u8 n) (v8 y) = pure (v8 ((BitVec.ofInt 8 n) ||| (y))) := by
 simp only [v8,binOp_or,intBits_or8,ofInt_nat]
theorem intBits_xor8(n m:Int):Op.intBits .xor .u8 n m=pure (v8 (BitVec.ofInt 8 n^^^BitVec.ofInt 8 m)):=by
 show pure (Value.int .u8 (IntKind.u8.wrap ((BitVec.ofInt 8 n^^^BitVec.ofInt 8 m).toNat:Nat)))=_
 rw [int8,ofInt_nat]
@[go_sem] theorem xor8_vv : binOp .xor t (v8 x) (v8 y) = pure (v8 ((x) ^^^ (y))) := by
 simp only [v8,binOp_xor,intBits_xor8,ofInt_nat]
@[go_sem] theorem xor8_vi : binOp .xor t (v8 x) (.int .u8 n) = pure (v8 ((x) ^^^ (BitVec.ofInt 8 n))) := by
 simp only [v8,binOp_xor,intBits_xor8,ofInt_nat]
@[go_sem] theorem xor8_iv : binOp .xor t (.int .u8 n) (v8 y) = pure (v8 ((BitVec.ofInt 8 n) ^^^ (y))) := by
 simp only [v8,binOp_xor,intBits_xor8,ofInt_nat]
theorem intBits_andNot8(n m:Int):Op.intBits .andNot .u8 n m=pure (v8 ((BitVec.ofInt 8 n)&&& ~~~(BitVec.ofInt 8 m))):=by
 show pure (Value.int .u8 (IntKind.u8.wrap (((BitVec.ofInt 8 n)&&& ~~~(BitVec.ofInt 8 m)).toNat:Nat)))=_
 rw [int8,ofInt_nat]
@[go_sem] theorem andNot8_vv : binOp .andNot t (v8 x) (v8 y) = pure (v8 ((x) &&& ~~~(y))) := by
 simp only [v8,binOp_andNot,intBits_andNot8,ofInt_nat]
@[go_sem] theorem andNot8_vi : binOp .andNot t (v8 x) (.int .u8 n) = pure (v8 ((x) &&& ~~~(BitVec.ofInt 8 n))) := by
 simp only [v8,binOp_andNot,intBits_andNot8,ofInt_nat]
@[go_sem] theorem andNot8_iv : binOp .andNot t (.int .u8 n) (v8 y) = pure (v8 ((BitVec.ofInt 8 n) &&& ~~~(y))) := by
 simp only [v8,binOp_andNot,intBits_andNot8,ofInt_nat]
@[go_sem] theorem add8_vv : binOp .add t (v8 x) (v8 y) = pure (v8 ((x) + (y))) := by
 simp only [v8,binOp_add,Op.intArith,int8,BitVec.ofInt_add,ofInt_nat]
@[go_sem] theorem add8_vi : binOp .add t (v8 x) (.int .u8 n) = pure (v8 ((x) + (BitVec.ofInt 8 n))) := by
 simp only [v8,binOp_add,Op.intArith,int8,BitVec.ofInt_add,ofInt_nat]
@[go_sem] theorem add8_iv : binOp .add t (.int .u8 n) (v8 y) = pure (v8 ((BitVec.ofInt 8 n) + (y))) := by
 simp only [v8,binOp_add,Op.intArith,int8,BitVec.ofInt_add,ofInt_nat]
@[go_sem] theorem sub8_vv : binOp .sub t (v8 x) (v8 y) = pure (v8 ((x) - (y))) := by
 simp only [v8,binOp_sub,Op.intArith,int8,ofInt_sub,ofInt_nat]
@[go_sem] theorem sub8_vi : binOp .sub t (v8 x) (.int .u8 n) = pure (v8 ((x) - (BitVec.ofInt 8 n))) := by
 simp only [v8,binOp_sub,Op.intArith,int8,ofInt_sub,ofInt_nat]
@[go_sem] theorem sub8_iv : binOp .sub t (.int .u8 n) (v8 y) = pure (v8 ((BitVec.ofInt 8 n) - (y))) := by
 simp only [v8,binOp_sub,Op.intArith,int8,ofInt_sub,ofInt_nat]
@[go_sem] theorem mul8_vv : binOp .mul t (v8 x) (v8 y) = pure (v8 ((x) * (y))) := by
 simp only [v8,binOp_mul,Op.intArith,int8,BitVec.ofInt_mul,ofInt_nat]
@[go_sem] theorem mul8_vi : binOp .mul t (v8 x) (.int .u8 n) = pure (v8 ((x) * (BitVec.ofInt 8 n))) := by
 simp only [v8,binOp_mul,Op.intArith,int8,BitVec.ofInt_mul,ofInt_nat]
@[go_sem] theorem mul8_iv : binOp .mul t (.int .u8 n) (v8 y) = pure (v8 ((BitVec.ofInt 8 n) * (y))) := by
 simp only [v8,binOp_mul,Op.intArith,int8,BitVec.ofInt_mul,ofInt_nat]
@[go_sem] theorem shl8_nat (yk : IntKind) (m : Nat) : binOp .shl t (v8 x) (.int yk (m : Int)) = pure (v8 (x <<< m)) := by
 simp only [v8,binOp_shl,Op.shift,Int.toNat_natCast]
 rw [if_neg (by omega)]
 simp only [int8,ofInt_pow]
 congr 2
 by_cases h:m≤IntKind.u8.bits
 · rw [Nat.min_eq_left h]
 · rw [Nat.min_eq_right (by omega)]
   simp only [IntKind.bits]at h⊢
   rw [BitVec.shiftLeft_eq_zero (by omega),BitVec.shiftLeft_eq_zero (by omega)]
@[go_sem] theorem shr8_nat (yk : IntKind) (m : Nat) : binOp .shr t (v8 x) (.int yk (m : Int)) = pure (v8 (x >>> m)) := by
 simp only [v8,binOp_shr,Op.shift,Int.toNat_natCast]
 rw [if_neg (by omega)]
 have e:∀j:Nat,(x.toNat:Int).fdiv (2^j)=((x>>>j).toNat:Int):=fun j=>by
   have hp:(2:Int)^j=((2^j:Nat):Int):=by simp
   rw [hp,Int.fdiv_eq_ediv_of_nonneg _ (Int.natCast_nonneg _),←Int.natCast_ediv,BitVec.toNat_ushiftRight,Nat.shiftRight_eq_div_pow]
 simp only [e]
 congr 3
 by_cases h:m≤IntKind.u8.bits
 · rw [Nat.min_eq_left h]
 · rw [Nat.min_eq_right (by omega)]
   simp only [IntKind.bits]at h⊢
   rw [BitVec.ushiftRight_eq_zero (by omega),BitVec.ushiftRight_eq_zero (by omega)]
@[go_sem] theorem shl8_lit (yk : IntKind) (m : Nat) : binOp .shl t (v8 x) (.int yk (no_index (OfNat.ofNat m))) = pure (v8 (x <<< m)) := shl8_nat t x yk m
@[go_sem] theorem shr8_lit (yk : IntKind) (m : Nat) : binOp .shr t (v8 x) (.int yk (no_index (OfNat.ofNat m))) = pure (v8 (x >>> m)) := shr8_nat t x yk m
@[go_sem low] theorem run_shl8_int (P : Program) (w : World) (yk : IntKind) : (binOp .shl t (v8 x) (.int yk n)).run P w = if 0 ≤ n then .ok (v8 (x <<< n.toNat)) w else (Op.shift .shl .u8 x.toNat yk n).run P w := by
 split
 · rename_i h;obtain⟨m,rfl⟩:=Int.eq_ofNat_of_zero_le h
   rw [shl8_nat t x yk m];rfl
 · simp only [v8,binOp_shl]
@[go_sem low] theorem run_shr8_int (P : Program) (w : World) (yk : IntKind) : (binOp .shr t (v8 x) (.int yk n)).run P w = if 0 ≤ n then .ok (v8 (x >>> n.toNat)) w else (Op.shift .shr .u8 x.toNat yk n).run P w := by
 split
 · rename_i h;obtain⟨m,rfl⟩:=Int.eq_ofNat_of_zero_le h
   rw [shr8_nat t x yk m];rfl
 · simp only [v8,binOp_shr]
@[go_sem] theorem shl8_v8 (c : BitVec 8) : binOp .shl t (v8 x) (v8 c) = pure (v8 (x <<< c.toNat)) := shl8_nat t x .u8 c.toNat
@[go_sem] theorem shr8_v8 (c : BitVec 8) : binOp .shr t (v8 x) (v8 c) = pure (v8 (x >>> c.toNat)) := shr8_nat t x .u8 c.toNat
@[go_sem] theorem shl8_v32 (c : BitVec 32) : binOp .shl t (v8 x) (v32 c) = pure (v8 (x <<< c.toNat)) := shl8_nat t x .u32 c.toNat
@[go_sem] theorem shr8_v32 (c : BitVec 32) : binOp .shr t (v8 x) (v32 c) = pure (v8 (x >>> c.toNat)) := shr8_nat t x .u32 c.toNat
@[go_sem] theorem shl8_v64 (c : BitVec 64) : binOp .shl t (v8 x) (v64 c) = pure (v8 (x <<< c.toNat)) := shl8_nat t x .u64 c.toNat
@[go_sem] theorem shr8_v64 (c : BitVec 64) : binOp .shr t (v8 x) (v64 c) = pure (v8 (x >>> c.toNat)) := shr8_nat t x .u64 c.toNat
@[go_sem] theorem eql8_vv : binOp .eql t (v8 x) (v8 y) = pure (.bool (x == y)) := by
 simp only [v8,binOp_eql];congr 2;rw [Bool.eq_iff_iff];simp only [beq_iff_eq,Int.natCast_inj,BitVec.toNat_inj]
@[go_sem] theorem neq8_vv : binOp .neq t (v8 x) (v8 y) = pure (.bool (x != y)) := by
 simp only [v8,binOp_neq];congr 2;rw [Bool.eq_iff_iff];simp only [bne_iff_ne,ne_eq,Int.natCast_inj,BitVec.toNat_inj]
theorem eql8_of(h0:0≤n)(h1:n<2^8):((x.toNat:Int)==n)=(x==BitVec.ofInt 8 n):=by
 rw [Bool.eq_iff_iff];simp only [beq_iff_eq];constructor
 · intro h;subst h;exact(ofInt_nat x).symm
 · intro h;subst h;simp only [BitVec.toNat_ofInt];omega
@[go_sem] theorem eql8_vl (m : Nat) (h1 : m < 2 ^ 8) : binOp .eql t (v8 x) (.int .u8 (no_index (OfNat.ofNat m))) = pure (.bool (x == BitVec.ofNat 8 m)) := by
 simp only [v8,binOp_eql];congr 2;rw [←ofInt_nat'];exact eql8_of x (m:Int) (by omega) (Int.lt_of_lt_of_le (Int.ofNat_lt.2 h1) (by decide))
@[go_sem] theorem neq8_vl (m : Nat) (h1 : m < 2 ^ 8) : binOp .neq t (v8 x) (.int .u8 (no_index (OfNat.ofNat m))) = pure (.bool (x != BitVec.ofNat 8 m)) := by
 simp only [v8,binOp_neq,bne];congr 3;rw [←ofInt_nat'];exact eql8_of x (m:Int) (by omega) (Int.lt_of_lt_of_le (Int.ofNat_lt.2 h1) (by decide))
@[go_sem] theorem lss8_vv : binOp .lss t (v8 x) (v8 y) = pure (.bool (decide ((x.toNat : Int) < y.toNat))) := by simp only [v8, binOp_lss]
@[go_sem] theorem lss8_vi : binOp .lss t (v8 x) (.int .u8 n) = pure (.bool (decide ((x.toNat : Int) < n))) := by simp only [v8, binOp_lss]
@[go_sem] theorem lss8_iv : binOp .lss t (.int .u8 n) (v8 y) = pure (.bool (decide (n < (y.toNat : Int)))) := by simp only [v8, binOp_lss]
@[go_sem] theorem leq8_vv : binOp .leq t (v8 x) (v8 y) = pure (.bool (decide ((x.toNat : Int) ≤ y.toNat))) := by simp only [v8, binOp_leq]
@[go_sem] theorem leq8_vi : binOp .leq t (v8 x) (.int .u8 n) = pure (.bool (decide ((x.toNat : Int) ≤ n))) := by simp only [v8, binOp_leq]
@[go_sem] theorem leq8_iv : binOp .leq t (.int .u8 n) (v8 y) = pure (.bool (decide (n ≤ (y.toNat : Int)))) := by simp only [v8, binOp_leq]
@[go_sem] theorem gtr8_vv : binOp .gtr t (v8 x) (v8 y) = pure (.bool (decide ((x.toNat : Int) > y.toNat))) := by simp only [v8, binOp_gtr]
@[go_sem] theorem gtr8_vi : binOp .gtr t (v8 x) (.int .u8 n) = pure (.bool (decide ((x.toNat : Int) > n))) := by simp only [v8, binOp_gtr]
@[go_sem] theorem gtr8_iv : binOp .gtr t (.int .u8 n) (v8 y) = pure (.bool (decide (n > (y.toNat : Int)))) := by simp only [v8, binOp_gtr]
@[go_sem] theorem geq8_vv : binOp .geq t (v8 x) (v8 y) = pure (.bool (decide ((x.toNat : Int) ≥ y.toNat))) := by simp only [v8, binOp_geq]
@[go_sem] theorem geq8_vi : binOp .geq t (v8 x) (.int .u8 n) = pure (.bool (decide ((x.toNat : Int) ≥ n))) := by simp only [v8, binOp_geq]
@[go_sem] theorem geq8_iv : binOp .geq t (.int .u8 n) (v8 y) = pure (.bool (decide (n ≥ (y.toNat : Int)))) := by simp only [v8, binOp_geq]
@[go_sem] theorem quo8_vl (m : Nat) (h0 : m ≠ 0) (h1 : m < 2 ^ 8) : binOp .quo t (v8 x) (.int .u8 (no_index (OfNat.ofNat m))) = pure (v8 (x / BitVec.ofNat 8 m)) := by
 show binOp .quo t (v8 x) (.int .u8 (m:Int))=_
 simp only [v8,binOp_quo,Op.intDiv]
 rw [if_neg (by omega)]
 simp only [int8]
 rw [Int.tdiv_eq_ediv_of_nonneg (by omega),←Int.natCast_ediv,ofInt_nat']
 congr 2
 apply BitVec.eq_of_toNat_eq
 simp [BitVec.toNat_udiv]
 rw [Nat.mod_eq_of_lt h1,Nat.mod_eq_of_lt]
 exact Nat.lt_of_le_of_lt (Nat.div_le_self _ _) x.isLt
@[go_sem] theorem rem8_vl (m : Nat) (h0 : m ≠ 0) (h1 : m < 2 ^ 8) : binOp .rem t (v8 x) (.int .u8 (no_index (OfNat.ofNat m))) = pure (v8 (x % BitVec.ofNat 8 m)) := by
 show binOp .rem t (v8 x) (.int .u8 (m:Int))=_
 simp only [v8,binOp_rem,Op.intDiv]
 rw [if_neg (by omega)]
 rw [Int.tmod_eq_emod_of_nonneg (by omega),←Int.natCast_emod]
 congr 3
 simp [BitVec.toNat_umod]
 rw [Nat.mod_eq_of_lt h1]
@[go_sem] theorem not8 : Op.unary .xor (v8 x) = pure (v8 (~~~x)) := by
 simp only [v8,Op.unary,intBits_xor8,ofInt_nat]
 have e:BitVec.ofInt 8 (if IntKind.u8.signed then-1 else IntKind.u8.max)=BitVec.allOnes 8:=by decide
 rw [e,BitVec.allOnes_xor]
@[go_sem] theorem neg8 : Op.unary .neg (v8 x) = pure (v8 (-x)) := by
 simp only [v8,Op.unary,Op.intArith,int8,ofInt_sub,ofInt_nat];simp
@[go_sem] theorem eqGuard8 (a b : Operand) (u : Value) : eqGuard op t a b (v8 x) u = pure () := eqGuard_at_int op t a b u .u8 x.toNat
@[go_sem] theorem asIntOf8 : asIntOf (v8 x) = pure (.u8, (x.toNat : Int)) := rfl
@[go_sem] theorem asInt8 : asInt (v8 x) = pure (x.toNat : Int) := rfl
@[go_sem high, simp] theorem cells8 : (v8 x).cells = #[v8 x] := rfl
@[go_sem] theorem one8 : (v8 x).oneCell' = true := rfl
@[go_sem] theorem run_store8 (P : Program) (w : World) (a : Addr) (m : Mode) : (store a (v8 x) m).run P w = stored P w a (v8 x) m := run_store P w a _ m rfl
@[go_sem] theorem run_storeCells8 (P : Program) (w : World) (a : Addr) : (storeCells a [v8 x]).run P w = stored P w a (v8 x) .plain := by
 have e:a.add 0=a:=by simp [Addr.add]
 simp only [storeCells,e,Sem.run_bind,run_store8,Sem.run_pure]
 generalize stored P w a (v8 x) .plain=r
 cases r<;>rfl
@[go_sem] theorem cells_match8 (f : Array Value → Array Value) (g : Value → Array Value) : Value.cells.match_1 (fun _ => Array Value) (v8 x) f g = g (v8 x) := rfl
@[go_sem] theorem run_equalIn8 (P : Program) (w : World) (d : Nat) (k : IntKind) (h : P.underlying t = some (.int k)) : (Op.equalIn (d + 1) t (v8 x) (v8 y)).run P w = .ok (x == y) w := by
 simp only [v8,run_equalIn_int w d t .u8 k _ _ h]
 congr 1;rw [Bool.eq_iff_iff];simp only [beq_iff_eq,Int.natCast_inj,BitVec.toNat_inj]
theorem conv8(P:Program)(s d:TypeId)(k:IntKind)(w:World)(hs:(P.underlying s).isSome=true)(hd:P.underlying d=some (.int k)):
   (convert s d (v8 x)).run P w= .ok (.int k (k.wrap x.toNat)) w:=by
 obtain⟨e,hs'⟩:=Option.isSome_iff_exists.mp hs
 simp [convert,run_underlying hs',run_underlying hd,Conv.intToInt,v8]
theorem conv8_32(P:Program)(s d:TypeId)(w:World)(hs:(P.underlying s).isSome=true)(hd:P.underlying d=some (.int .u32)):
   (convert s d (v8 x)).run P w= .ok (v32 (x.setWidth 32)) w:=by
 rw [conv8 x P s d _ w hs hd,int32,ofInt_nat'];congr 2<;>(apply BitVec.eq_of_toNat_eq;simp)
theorem conv8_64(P:Program)(s d:TypeId)(w:World)(hs:(P.underlying s).isSome=true)(hd:P.underlying d=some (.int .u64)):
   (convert s d (v8 x)).run P w= .ok (v64 (x.setWidth 64)) w:=by
 rw [conv8 x P s d _ w hs hd,int64,ofInt_nat'];congr 2<;>(apply BitVec.eq_of_toNat_eq;simp)
theorem conv_int8(P:Program)(s d:TypeId)(k:IntKind)(w:World)(hs:(P.underlying s).isSome=true)(hd:P.underlying d=some (.int .u8)):
   (convert s d (.int k n)).run P w= .ok (v8 (BitVec.ofInt 8 n)) w:=by
 obtain⟨e,hs'⟩:=Option.isSome_iff_exists.mp hs
 simp [convert,run_underlying hs',run_underlying hd,Conv.intToInt,int8]
end w8
section w16
variable (t ty:TypeId) (x y:BitVec 16) (n:Int) (op:BinOp)
@[go_sem] theorem shl16_nat (yk : IntKind) (m : Nat) : binOp .shl t (v16 x) (.int yk (m : Int)) = pure (v16 (x <<< m)) := by
 simp only [v16,binOp_shl,Op.shift,Int.toNat_natCast]
 rw [if_neg (by omega)]
 simp only [int16,ofInt_pow]
 congr 2
 by_cases h:m≤IntKind.u16.bits
 · rw [Nat.min_eq_left h]
 · rw [Nat.min_eq_right (by omega)]
   simp only [IntKind.bits]at h⊢
   rw [BitVec.shiftLeft_eq_zero (by omega),BitVec.shiftLeft_eq_zero (by omega)]
@[go_sem] theorem shr16_nat (yk : IntKind) (m : Nat) : binOp .shr t (v16 x) (.int yk (m : Int)) = pure (v16 (x >>> m)) := by
 simp only [v16,binOp_shr,Op.shift,Int.toNat_natCast]
 rw [if_neg (by omega)]
 have e:∀j:Nat,(x.toNat:Int).fdiv (2^j)=((x>>>j).toNat:Int):=fun j=>by
   have hp:(2:Int)^j=((2^j:Nat):Int):=by simp
   rw [hp,Int.fdiv_eq_ediv_of_nonneg _ (Int.natCast_nonneg _),←Int.natCast_ediv,BitVec.toNat_ushiftRight,Nat.shiftRight_eq_div_pow]
 simp only [e]
 congr 3
 by_cases h:m≤IntKind.u16.bits
 · rw [Nat.min_eq_left h]
 · rw [Nat.min_eq_right (by omega)]
   simp only [IntKind.bits]at h⊢
   rw [BitVec.ushiftRight_eq_zero (by omega),BitVec.ushiftRight_eq_zero (by omega)]
@[go_sem low] theorem run_shl16_int (P : Program) (w : World) (yk : IntKind) : (binOp .shl t (v16 x) (.int yk n)).run P w = if 0 ≤ n then .ok (v16 (x <<< n.toNat)) w else (Op.shift .shl .u16 x.toNat yk n).run P w := by
 split
 · rename_i h;obtain⟨m,rfl⟩:=Int.eq_ofNat_of_zero_le h
   rw [shl16_nat t x yk m];rfl
 · simp only [v16,binOp_shl]
@[go_sem low] theorem run_shr16_int (P : Program) (w : World) (yk : IntKind) : (binOp .shr t (v16 x) (.int yk n)).run P w = if 0 ≤ n then .ok (v16 (x >>> n.toNat)) w else (Op.shift .shr .u16 x.toNat yk n).run P w := by
 split
 · rename_i h;obtain⟨m,rfl⟩:=Int.eq_ofNat_of_zero_le h
   rw [shr16_nat t x yk m];rfl
 · simp only [v16,binOp_shr]
@[go_sem high, simp] theorem cells16 : (v16 x).cells = #[v16 x] := rfl
end w16
section w32
variable (t ty:TypeId) (x y:BitVec 32) (n:Int) (op:BinOp)
theorem intBits_and32(n m:Int):Op.intBits .and .u32 n m=pure (v32 (BitVec.ofInt 32 n&&&BitVec.ofInt 32 m)):=by
 show pure (Value.int .u32 (IntKind.u32.wrap ((BitVec.ofInt 32 n&&&BitVec.ofInt 32 m).toNat:Nat)))=_
 rw [int32,ofInt_nat]
@[go_sem] theorem and32_vv : binOp .and t (v32 x) (v32 y) = pure (v32 ((x) &&& (y))) := by
 simp only [v32,binOp_and,intBits_and32,ofInt_nat]
@[go_sem] theorem and32_vi : binOp .and t (v32 x) (.int .u32 n) = pure (v32 ((x) &&& (BitVec.ofInt 32 n))) := by
 simp only [v32,binOp_and,intBits_and32,ofInt_nat]
@[go_sem] theorem and32_iv : binOp .and t (.int .u32 n) (v32 y) = pure (v32 ((BitVec.ofInt 32 n) &&& (y))) := by
 simp only [v32,binOp_and,intBits_and32,ofInt_nat]
theorem intBits_or32(n m:Int):Op.intBits .or .u32 n m=pure (v32 (BitVec.ofInt 32 n|||BitVec.ofInt 32 m)):=by
 show pure (Value.int .u32 (IntKind.u32.wrap ((BitVec.ofInt 32 n|||BitVec.ofInt 32 m).toNat:Nat)))=_
 rw [int32,ofInt_nat]
@[go_sem] theorem or32_vv : binOp .or t (v32 x) (v32 y) = pure (v32 ((x) ||| (y))) := by
 simp only [v32,binOp_or,intBits_or32,ofInt_nat]
@[go_sem] theorem or32_vi : binOp .or t (v32 x) (.int .u32 n) = pure (v32 ((x) ||| (BitVec.ofInt 32 n))) := by
 simp only [v32,binOp_or,intBits_or32,ofInt_nat]
@[go_sem] theorem or32_iv : binOp .or t (.int .u32 n) (v32 y) = pure (v32 ((BitVec.ofInt 32 n) ||| (y))) := by
 simp only [v32,binOp_or,intBits_or32,ofInt_nat]
theorem intBits_xor32(n m:Int):Op.intBits .xor .u32 n m=pure (v32 (BitVec.ofInt 32 n^^^BitVec.ofInt 32 m)):=by
 show pure (Value.int .u32 (IntKind.u32.wrap ((BitVec.ofInt 32 n^^^BitVec.ofInt 32 m).toNat:Nat)))=_
 rw [int32,ofInt_nat]
@[go_sem] theorem xor32_vv : binOp .xor t (v32 x) (v32 y) = pure (v32 ((x) ^^^ (y))) := by
 simp only [v32,binOp_xor,intBits_xor32,ofInt_nat]
@[go_sem] theorem xor32_vi : binOp .xor t (v32 x) (.int .u32 n) = pure (v32 ((x) ^^^ (BitVec.ofInt 32 n))) := by
 simp only [v32,binOp_xor,intBits_xor32,ofInt_nat]
@[go_sem] theorem xor32_iv : binOp .xor t (.int .u32 n) (v32 y) = pure (v32 ((BitVec.ofInt 32 n) ^^^ (y))) := by
 simp only [v32,binOp_xor,intBits_xor32,ofInt_nat]
theorem intBits_andNot32(n m:Int):Op.intBits .andNot .u32 n m=pure (v32 ((BitVec.ofInt 32 n)&&& ~~~(BitVec.ofInt 32 m))):=by
 show pure (Value.int .u32 (IntKind.u32.wrap (((BitVec.ofInt 32 n)&&& ~~~(BitVec.ofInt 32 m)).toNat:Nat)))=_
 rw [int32,ofInt_nat]
@[go_sem] theorem andNot32_vv : binOp .andNot t (v32 x) (v32 y) = pure (v32 ((x) &&& ~~~(y))) := by
 simp only [v32,binOp_andNot,intBits_andNot32,ofInt_nat]
@[go_sem] theorem andNot32_vi : binOp .andNot t (v32 x) (.int .u32 n) = pure (v32 ((x) &&& ~~~(BitVec.ofInt 32 n))) := by
 simp only [v32,binOp_andNot,intBits_andNot32,ofInt_nat]
@[go_sem] theorem andNot32_iv : binOp .andNot t (.int .u32 n) (v32 y) = pure (v32 ((BitVec.ofInt 32 n) &&& ~~~(y))) := by
 simp only [v32,binOp_andNot,intBits_andNot32,ofInt_nat]
@[go_sem] theorem add32_vv : binOp .add t (v32 x) (v32 y) = pure (v32 ((x) + (y))) := by
 simp only [v32,binOp_add,Op.intArith,int32,BitVec.ofInt_add,ofInt_nat]
@[go_sem] theorem add32_vi : binOp .add t (v32 x) (.int .u32 n) = pure (v32 ((x) + (BitVec.ofInt 32 n))) := by
 simp only [v32,binOp_add,Op.intArith,int32,BitVec.ofInt_add,ofInt_nat]
@[go_sem] theorem add32_iv : binOp .add t (.int .u32 n) (v32 y) = pure (v32 ((BitVec.ofInt 32 n) + (y))) := by
 simp only [v32,binOp_add,Op.intArith,int32,BitVec.ofInt_add,ofInt_nat]
@[go_sem] theorem sub32_vv : binOp .sub t (v32 x) (v32 y) = pure (v32 ((x) - (y))) := by
 simp only [v32,binOp_sub,Op.intArith,int32,ofInt_sub,ofInt_nat]
@[go_sem] theorem sub32_vi : binOp .sub t (v32 x) (.int .u32 n) = pure (v32 ((x) - (BitVec.ofInt 32 n))) := by
 simp only [v32,binOp_sub,Op.intArith,int32,ofInt_sub,ofInt_nat]
@[go_sem] theorem sub32_iv : binOp .sub t (.int .u32 n) (v32 y) = pure (v32 ((BitVec.ofInt 32 n) - (y))) := by
 simp only [v32,binOp_sub,Op.intArith,int32,ofInt_sub,ofInt_nat]
@[go_sem] theorem mul32_vv : binOp .mul t (v32 x) (v32 y) = pure (v32 ((x) * (y))) := by
 simp only [v32,binOp_mul,Op.intArith,int32,BitVec.ofInt_mul,ofInt_nat]
@[go_sem] theorem mul32_vi : binOp .mul t (v32 x) (.int .u32 n) = pure (v32 ((x) * (BitVec.ofInt 32 n))) := by
 simp only [v32,binOp_mul,Op.intArith,int32,BitVec.ofInt_mul,ofInt_nat]
@[go_sem] theorem mul32_iv : binOp .mul t (.int .u32 n) (v32 y) = pure (v32 ((BitVec.ofInt 32 n) * (y))) := by
 simp only [v32,binOp_mul,Op.intArith,int32,BitVec.ofInt_mul,ofInt_nat]
@[go_sem] theorem shl32_nat (yk : IntKind) (m : Nat) : binOp .shl t (v32 x) (.int yk (m : Int)) = pure (v32 (x <<< m)) := by
 simp only [v32,binOp_shl,Op.shift,Int.toNat_natCast]
 rw [if_neg (by omega)]
 simp only [int32,ofInt_pow]
 congr 2
 by_cases h:m≤IntKind.u32.bits
 · rw [Nat.min_eq_left h]
 · rw [Nat.min_eq_right (by omega)]
   simp only [IntKind.bits]at h⊢
   rw [BitVec.shiftLeft_eq_zero (by omega),BitVec.shiftLeft_eq_zero (by omega)]
@[go_sem] theorem shr32_nat (yk : IntKind) (m : Nat) : binOp .shr t (v32 x) (.int yk (m : Int)) = pure (v32 (x >>> m)) := by
 simp only [v32,binOp_shr,Op.shift,Int.toNat_natCast]
 rw [if_neg (by omega)]
 have e:∀j:Nat,(x.toNat:Int).fdiv (2^j)=((x>>>j).toNat:Int):=fun j=>by
   have hp:(2:Int)^j=((2^j:Nat):Int):=by simp
   rw [hp,Int.fdiv_eq_ediv_of_nonneg _ (Int.natCast_nonneg _),←Int.natCast_ediv,BitVec.toNat_ushiftRight,Nat.shiftRight_eq_div_pow]
 simp only [e]
 congr 3
 by_cases h:m≤IntKind.u32.bits
 · rw [Nat.min_eq_left h]
 · rw [Nat.min_eq_right (by omega)]
   simp only [IntKind.bits]at h⊢
   rw [BitVec.ushiftRight_eq_zero (by omega),BitVec.ushiftRight_eq_zero (by omega)]
@[go_sem] theorem shl32_lit (yk : IntKind) (m : Nat) : binOp .shl t (v32 x) (.int yk (no_index (OfNat.ofNat m))) = pure (v32 (x <<< m)) := shl32_nat t x yk m
@[go_sem] theorem shr32_lit (yk : IntKind) (m : Nat) : binOp .shr t (v32 x) (.int yk (no_index (OfNat.ofNat m))) = pure (v32 (x >>> m)) := shr32_nat t x yk m
@[go_sem low] theorem run_shl32_int (P : Program) (w : World) (yk : IntKind) : (binOp .shl t (v32 x) (.int yk n)).run P w = if 0 ≤ n then .ok (v32 (x <<< n.toNat)) w else (Op.shift .shl .u32 x.toNat yk n).run P w := by
 split
 · rename_i h;obtain⟨m,rfl⟩:=Int.eq_ofNat_of_zero_le h
   rw [shl32_nat t x yk m];rfl
 · simp only [v32,binOp_shl]
@[go_sem low] theorem run_shr32_int (P : Program) (w : World) (yk : IntKind) : (binOp .shr t (v32 x) (.int yk n)).run P w = if 0 ≤ n then .ok (v32 (x >>> n.toNat)) w else (Op.shift .shr .u32 x.toNat yk n).run P w := by
 split
 · rename_i h;obtain⟨m,rfl⟩:=Int.eq_ofNat_of_zero_le h
   rw [shr32_nat t x yk m];rfl
 · simp only [v32,binOp_shr]
@[go_sem] theorem shl32_v8 (c : BitVec 8) : binOp .shl t (v32 x) (v8 c) = pure (v32 (x <<< c.toNat)) := shl32_nat t x .u8 c.toNat
@[go_sem] theorem shr32_v8 (c : BitVec 8) : binOp .shr t (v32 x) (v8 c) = pure (v32 (x >>> c.toNat)) := shr32_nat t x .u8 c.toNat
@[go_sem] theorem shl32_v32 (c : BitVec 32) : binOp .shl t (v32 x) (v32 c) = pure (v32 (x <<< c.toNat)) := shl32_nat t x .u32 c.toNat
@[go_sem] theorem shr32_v32 (c : BitVec 32) : binOp .shr t (v32 x) (v32 c) = pure (v32 (x >>> c.toNat)) := shr32_nat t x .u32 c.toNat
@[go_sem] theorem shl32_v64 (c : BitVec 64) : binOp .shl t (v32 x) (v64 c) = pure (v32 (x <<< c.toNat)) := shl32_nat t x .u64 c.toNat
@[go_sem] theorem shr32_v64 (c : BitVec 64) : binOp .shr t (v32 x) (v64 c) = pure (v32 (x >>> c.toNat)) := shr32_nat t x .u64 c.toNat
@[go_sem] theorem eql32_vv : binOp .eql t (v32 x) (v32 y) = pure (.bool (x == y)) := by
 simp only [v32,binOp_eql];congr 2;rw [Bool.eq_iff_iff];simp only [beq_iff_eq,Int.natCast_inj,BitVec.toNat_inj]
@[go_sem] theorem neq32_vv : binOp .neq t (v32 x) (v32 y) = pure (.bool (x != y)) := by
 simp only [v32,binOp_neq];congr 2;rw [Bool.eq_iff_iff];simp only [bne_iff_ne,ne_eq,Int.natCast_inj,BitVec.toNat_inj]
theorem eql32_of(h0:0≤n)(h1:n<2^32):((x.toNat:Int)==n)=(x==BitVec.ofInt 32 n):=by
 rw [Bool.eq_iff_iff];simp only [beq_iff_eq];constructor
 · intro h;subst h;exact(ofInt_nat x).symm
 · intro h;subst h;simp only [BitVec.toNat_ofInt];omega
@[go_sem] theorem eql32_vl (m : Nat) (h1 : m < 2 ^ 32) : binOp .eql t (v32 x) (.int .u32 (no_index (OfNat.ofNat m))) = pure (.bool (x == BitVec.ofNat 32 m)) := by
 simp only [v32,binOp_eql];congr 2;rw [←ofInt_nat'];exact eql32_of x (m:Int) (by omega) (Int.lt_of_lt_of_le (Int.ofNat_lt.2 h1) (by decide))
@[go_sem] theorem neq32_vl (m : Nat) (h1 : m < 2 ^ 32) : binOp .neq t (v32 x) (.int .u32 (no_index (OfNat.ofNat m))) = pure (.bool (x != BitVec.ofNat 32 m)) := by
 simp only [v32,binOp_neq,bne];congr 3;rw [←ofInt_nat'];exact eql32_of x (m:Int) (by omega) (Int.lt_of_lt_of_le (Int.ofNat_lt.2 h1) (by decide))
@[go_sem] theorem lss32_vv : binOp .lss t (v32 x) (v32 y) = pure (.bool (decide ((x.toNat : Int) < y.toNat))) := by simp only [v32, binOp_lss]
@[go_sem] theorem lss32_vi : binOp .lss t (v32 x) (.int .u32 n) = pure (.bool (decide ((x.toNat : Int) < n))) := by simp only [v32, binOp_lss]
@[go_sem] theorem lss32_iv : binOp .lss t (.int .u32 n) (v32 y) = pure (.bool (decide (n < (y.toNat : Int)))) := by simp only [v32, binOp_lss]
@[go_sem] theorem leq32_vv : binOp .leq t (v32 x) (v32 y) = pure (.bool (decide ((x.toNat : Int) ≤ y.toNat))) := by simp only [v32, binOp_leq]
@[go_sem] theorem leq32_vi : binOp .leq t (v32 x) (.int .u32 n) = pure (.bool (decide ((x.toNat : Int) ≤ n))) := by simp only [v32, binOp_leq]
@[go_sem] theorem leq32_iv : binOp .leq t (.int .u32 n) (v32 y) = pure (.bool (decide (n ≤ (y.toNat : Int)))) := by simp only [v32, binOp_leq]
@[go_sem] theorem gtr32_vv : binOp .gtr t (v32 x) (v32 y) = pure (.bool (decide ((x.toNat : Int) > y.toNat))) := by simp only [v32, binOp_gtr]
@[go_sem] theorem gtr32_vi : binOp .gtr t (v32 x) (.int .u32 n) = pure (.bool (decide ((x.toNat : Int) > n))) := by simp only [v32, binOp_gtr]
@[go_sem] theorem gtr32_iv : binOp .gtr t (.int .u32 n) (v32 y) = pure (.bool (decide (n > (y.toNat : Int)))) := by simp only [v32, binOp_gtr]
@[go_sem] theorem geq32_vv : binOp .geq t (v32 x) (v32 y) = pure (.bool (decide ((x.toNat : Int) ≥ y.toNat))) := by simp only [v32, binOp_geq]
@[go_sem] theorem geq32_vi : binOp .geq t (v32 x) (.int .u32 n) = pure (.bool (decide ((x.toNat : Int) ≥ n))) := by simp only [v32, binOp_geq]
@[go_sem] theorem geq32_iv : binOp .geq t (.int .u32 n) (v32 y) = pure (.bool (decide (n ≥ (y.toNat : Int)))) := by simp only [v32, binOp_geq]
@[go_sem] theorem quo32_vl (m : Nat) (h0 : m ≠ 0) (h1 : m < 2 ^ 32) : binOp .quo t (v32 x) (.int .u32 (no_index (OfNat.ofNat m))) = pure (v32 (x / BitVec.ofNat 32 m)) := by
 show binOp .quo t (v32 x) (.int .u32 (m:Int))=_
 simp only [v32,binOp_quo,Op.intDiv]
 rw [if_neg (by omega)]
 simp only [int32]
 rw [Int.tdiv_eq_ediv_of_nonneg (by omega),←Int.natCast_ediv,ofInt_nat']
 congr 2
 apply BitVec.eq_of_toNat_eq
 simp [BitVec.toNat_udiv]
 rw [Nat.mod_eq_of_lt h1,Nat.mod_eq_of_lt]
 exact Nat.lt_of_le_of_lt (Nat.div_le_self _ _) x.isLt
@[go_sem] theorem rem32_vl (m : Nat) (h0 : m ≠ 0) (h1 : m < 2 ^ 32) : binOp .rem t (v32 x) (.int .u32 (no_index (OfNat.ofNat m))) = pure (v32 (x % BitVec.ofNat 32 m)) := by
 show binOp .rem t (v32 x) (.int .u32 (m:Int))=_
 simp only [v32,binOp_rem,Op.intDiv]
 rw [if_neg (by omega)]
 rw [Int.tmod_eq_emod_of_nonneg (by omega),←Int.natCast_emod]
 congr 3
 simp [BitVec.toNat_umod]
 rw [Nat.mod_eq_of_lt h1]
@[go_sem] theorem not32 : Op.unary .xor (v32 x) = pure (v32 (~~~x)) := by
 simp only [v32,Op.unary,intBits_xor32,ofInt_nat]
 have e:BitVec.ofInt 32 (if IntKind.u32.signed then-1 else IntKind.u32.max)=BitVec.allOnes 32:=by decide
 rw [e,BitVec.allOnes_xor]
@[go_sem] theorem neg32 : Op.unary .neg (v32 x) = pure (v32 (-x)) := by
 simp only [v32,Op.unary,Op.intArith,int32,ofInt_sub,ofInt_nat];simp
@[go_sem] theorem eqGuard32 (a b : Operand) (u : Value) : eqGuard op t a b (v32 x) u = pure () := eqGuard_at_int op t a b u .u32 x.toNat
@[go_sem] theorem asIntOf32 : asIntOf (v32 x) = pure (.u32, (x.toNat : Int)) := rfl
@[go_sem] theorem asInt32 : asInt (v32 x) = pure (x.toNat : Int) := rfl
@[go_sem high, simp] theorem cells32 : (v32 x).cells = #[v32 x] := rfl
@[go_sem] theorem one32 : (v32 x).oneCell' = true := rfl
@[go_sem] theorem run_store32 (P : Program) (w : World) (a : Addr) (m : Mode) : (store a (v32 x) m).run P w = stored P w a (v32 x) m := run_store P w a _ m rfl
@[go_sem] theorem run_storeCells32 (P : Program) (w : World) (a : Addr) : (storeCells a [v32 x]).run P w = stored P w a (v32 x) .plain := by
 have e:a.add 0=a:=by simp [Addr.add]
 simp only [storeCells,e,Sem.run_bind,run_store32,Sem.run_pure]
 generalize stored P w a (v32 x) .plain=r
 cases r<;>rfl
@[go_sem] theorem cells_match32 (f : Array Value → Array Value) (g : Value → Array Value) : Value.cells.match_1 (fun _ => Array Value) (v32 x) f g = g (v32 x) := rfl
@[go_sem] theorem run_equalIn32 (P : Program) (w : World) (d : Nat) (k : IntKind) (h : P.underlying t = some (.int k)) : (Op.equalIn (d + 1) t (v32 x) (v32 y)).run P w = .ok (x == y) w := by
 simp only [v32,run_equalIn_int w d t .u32 k _ _ h]
 congr 1;rw [Bool.eq_iff_iff];simp only [beq_iff_eq,Int.natCast_inj,BitVec.toNat_inj]
theorem conv32(P:Program)(s d:TypeId)(k:IntKind)(w:World)(hs:(P.underlying s).isSome=true)(hd:P.underlying d=some (.int k)):
   (convert s d (v32 x)).run P w= .ok (.int k (k.wrap x.toNat)) w:=by
 obtain⟨e,hs'⟩:=Option.isSome_iff_exists.mp hs
 simp [convert,run_underlying hs',run_underlying hd,Conv.intToInt,v32]
theorem conv32_8(P:Program)(s d:TypeId)(w:World)(hs:(P.underlying s).isSome=true)(hd:P.underlying d=some (.int .u8)):
   (convert s d (v32 x)).run P w= .ok (v8 (x.setWidth 8)) w:=by
 rw [conv32 x P s d _ w hs hd,int8,ofInt_nat'];congr 2<;>(apply BitVec.eq_of_toNat_eq;simp)
theorem conv32_64(P:Program)(s d:TypeId)(w:World)(hs:(P.underlying s).isSome=true)(hd:P.underlying d=some (.int .u64)):
   (convert s d (v32 x)).run P w= .ok (v64 (x.setWidth 64)) w:=by
 rw [conv32 x P s d _ w hs hd,int64,ofInt_nat'];congr 2<;>(apply BitVec.eq_of_toNat_eq;simp)
theorem conv_int32(P:Program)(s d:TypeId)(k:IntKind)(w:World)(hs:(P.underlying s).isSome=true)(hd:P.underlying d=some (.int .u32)):
   (convert s d (.int k n)).run P w= .ok (v32 (BitVec.ofInt 32 n)) w:=by
 obtain⟨e,hs'⟩:=Option.isSome_iff_exists.mp hs
 simp [convert,run_underlying hs',run_underlying hd,Conv.intToInt,int32]
end w32
section w64
variable (t ty:TypeId) (x y:BitVec 64) (n:Int) (op:BinOp)
theorem intBits_and64(n m:Int):Op.intBits .and .u64 n m=pure (v64 (BitVec.ofInt 64 n&&&BitVec.ofInt 64 m)):=by
 show pure (Value.int .u64 (IntKind.u64.wrap ((BitVec.ofInt 64 n&&&BitVec.ofInt 64 m).toNat:Nat)))=_
 rw [int64,ofInt_nat]
@[go_sem] theorem and64_vv : binOp .and t (v64 x) (v64 y) = pure (v64 ((x) &&& (y))) := by
 simp only [v64,binOp_and,intBits_and64,ofInt_nat]
@[go_sem] theorem and64_vi : binOp .and t (v64 x) (.int .u64 n) = pure (v64 ((x) &&& (BitVec.ofInt 64 n))) := by
 simp only [v64,binOp_and,intBits_and64,ofInt_nat]
@[go_sem] theorem and64_iv : binOp .and t (.int .u64 n) (v64 y) = pure (v64 ((BitVec.ofInt 64 n) &&& (y))) := by
 simp only [v64,binOp_and,intBits_and64,ofInt_nat]
theorem intBits_or64(n m:Int):Op.intBits .or .u64 n m=pure (v64 (BitVec.ofInt 64 n|||BitVec.ofInt 64 m)):=by
 show pure (Value.int .u64 (IntKind.u64.wrap ((BitVec.ofInt 64 n|||BitVec.ofInt 64 m).toNat:Nat)))=_
 rw [int64,ofInt_nat]
@[go_sem] theorem or64_vv : binOp .or t (v64 x) (v64 y) = pure (v64 ((x) ||| (y))) := by
 simp only [v64,binOp_or,intBits_or64,ofInt_nat]
@[go_sem] theorem or64_vi : binOp .or t (v64 x) (.int .u64 n) = pure (v64 ((x) ||| (BitVec.ofInt 64 n))) := by
 simp only [v64,binOp_or,intBits_or64,ofInt_nat]
@[go_sem] theorem or64_iv : binOp .or t (.int .u64 n) (v64 y) = pure (v64 ((BitVec.ofInt 64 n) ||| (y))) := by
 simp only [v64,binOp_or,intBits_or64,ofInt_nat]
theorem intBits_xor64(n m:Int):Op.intBits .xor .u64 n m=pure (v64 (BitVec.ofInt 64 n^^^BitVec.ofInt 64 m)):=by
 show pure (Value.int .u64 (IntKind.u64.wrap ((BitVec.ofInt 64 n^^^BitVec.ofInt 64 m).toNat:Nat)))=_
 rw [int64,ofInt_nat]
@[go_sem] theorem xor64_vv : binOp .xor t (v64 x) (v64 y) = pure (v64 ((x) ^^^ (y))) := by
 simp only [v64,binOp_xor,intBits_xor64,ofInt_nat]
@[go_sem] theorem xor64_vi : binOp .xor t (v64 x) (.int .u64 n) = pure (v64 ((x) ^^^ (BitVec.ofInt 64 n))) := by
 simp only [v64,binOp_xor,intBits_xor64,ofInt_nat]
@[go_sem] theorem xor64_iv : binOp .xor t (.int .u64 n) (v64 y) = pure (v64 ((BitVec.ofInt 64 n) ^^^ (y))) := by
 simp only [v64,binOp_xor,intBits_xor64,ofInt_nat]
theorem intBits_andNot64(n m:Int):Op.intBits .andNot .u64 n m=pure (v64 ((BitVec.ofInt 64 n)&&& ~~~(BitVec.ofInt 64 m))):=by
 show pure (Value.int .u64 (IntKind.u64.wrap (((BitVec.ofInt 64 n)&&& ~~~(BitVec.ofInt 64 m)).toNat:Nat)))=_
 rw [int64,ofInt_nat]
@[go_sem] theorem andNot64_vv : binOp .andNot t (v64 x) (v64 y) = pure (v64 ((x) &&& ~~~(y))) := by
 simp only [v64,binOp_andNot,intBits_andNot64,ofInt_nat]
@[go_sem] theorem andNot64_vi : binOp .andNot t (v64 x) (.int .u64 n) = pure (v64 ((x) &&& ~~~(BitVec.ofInt 64 n))) := by
 simp only [v64,binOp_andNot,intBits_andNot64,ofInt_nat]
@[go_sem] theorem andNot64_iv : binOp .andNot t (.int .u64 n) (v64 y) = pure (v64 ((BitVec.ofInt 64 n) &&& ~~~(y))) := by
 simp only [v64,binOp_andNot,intBits_andNot64,ofInt_nat]
@[go_sem] theorem add64_vv : binOp .add t (v64 x) (v64 y) = pure (v64 ((x) + (y))) := by
 simp only [v64,binOp_add,Op.intArith,int64,BitVec.ofInt_add,ofInt_nat]
@[go_sem] theorem add64_vi : binOp .add t (v64 x) (.int .u64 n) = pure (v64 ((x) + (BitVec.ofInt 64 n))) := by
 simp only [v64,binOp_add,Op.intArith,int64,BitVec.ofInt_add,ofInt_nat]
@[go_sem] theorem add64_iv : binOp .add t (.int .u64 n) (v64 y) = pure (v64 ((BitVec.ofInt 64 n) + (y))) := by
 simp only [v64,binOp_add,Op.intArith,int64,BitVec.ofInt_add,ofInt_nat]
@[go_sem] theorem sub64_vv : binOp .sub t (v64 x) (v64 y) = pure (v64 ((x) - (y))) := by
 simp only [v64,binOp_sub,Op.intArith,int64,ofInt_sub,ofInt_nat]
@[go_sem] theorem sub64_vi : binOp .sub t (v64 x) (.int .u64 n) = pure (v64 ((x) - (BitVec.ofInt 64 n))) := by
 simp only [v64,binOp_sub,Op.intArith,int64,ofInt_sub,ofInt_nat]
@[go_sem] theorem sub64_iv : binOp .sub t (.int .u64 n) (v64 y) = pure (v64 ((BitVec.ofInt 64 n) - (y))) := by
 simp only [v64,binOp_sub,Op.intArith,int64,ofInt_sub,ofInt_nat]
@[go_sem] theorem mul64_vv : binOp .mul t (v64 x) (v64 y) = pure (v64 ((x) * (y))) := by
 simp only [v64,binOp_mul,Op.intArith,int64,BitVec.ofInt_mul,ofInt_nat]
@[go_sem] theorem mul64_vi : binOp .mul t (v64 x) (.int .u64 n) = pure (v64 ((x) * (BitVec.ofInt 64 n))) := by
 simp only [v64,binOp_mul,Op.intArith,int64,BitVec.ofInt_mul,ofInt_nat]
@[go_sem] theorem mul64_iv : binOp .mul t (.int .u64 n) (v64 y) = pure (v64 ((BitVec.ofInt 64 n) * (y))) := by
 simp only [v64,binOp_mul,Op.intArith,int64,BitVec.ofInt_mul,ofInt_nat]
@[go_sem] theorem shl64_nat (yk : IntKind) (m : Nat) : binOp .shl t (v64 x) (.int yk (m : Int)) = pure (v64 (x <<< m)) := by
 simp only [v64,binOp_shl,Op.shift,Int.toNat_natCast]
 rw [if_neg (by omega)]
 simp only [int64,ofInt_pow]
 congr 2
 by_cases h:m≤IntKind.u64.bits
 · rw [Nat.min_eq_left h]
 · rw [Nat.min_eq_right (by omega)]
   simp only [IntKind.bits]at h⊢
   rw [BitVec.shiftLeft_eq_zero (by omega),BitVec.shiftLeft_eq_zero (by omega)]
@[go_sem] theorem shr64_nat (yk : IntKind) (m : Nat) : binOp .shr t (v64 x) (.int yk (m : Int)) = pure (v64 (x >>> m)) := by
 simp only [v64,binOp_shr,Op.shift,Int.toNat_natCast]
 rw [if_neg (by omega)]
 have e:∀j:Nat,(x.toNat:Int).fdiv (2^j)=((x>>>j).toNat:Int):=fun j=>by
   have hp:(2:Int)^j=((2^j:Nat):Int):=by simp
   rw [hp,Int.fdiv_eq_ediv_of_nonneg _ (Int.natCast_nonneg _),←Int.natCast_ediv,BitVec.toNat_ushiftRight,Nat.shiftRight_eq_div_pow]
 simp only [e]
 congr 3
 by_cases h:m≤IntKind.u64.bits
 · rw [Nat.min_eq_left h]
 · rw [Nat.min_eq_right (by omega)]
   simp only [IntKind.bits]at h⊢
   rw [BitVec.ushiftRight_eq_zero (by omega),BitVec.ushiftRight_eq_zero (by omega)]
@[go_sem] theorem shl64_lit (yk : IntKind) (m : Nat) : binOp .shl t (v64 x) (.int yk (no_index (OfNat.ofNat m))) = pure (v64 (x <<< m)) := shl64_nat t x yk m
@[go_sem] theorem shr64_lit (yk : IntKind) (m : Nat) : binOp .shr t (v64 x) (.int yk (no_index (OfNat.ofNat m))) = pure (v64 (x >>> m)) := shr64_nat t x yk m
@[go_sem low] theorem run_shl64_int (P : Program) (w : World) (yk : IntKind) : (binOp .shl t (v64 x) (.int yk n)).run P w = if 0 ≤ n then .ok (v64 (x <<< n.toNat)) w else (Op.shift .shl .u64 x.toNat yk n).run P w := by
 split
 · rename_i h;obtain⟨m,rfl⟩:=Int.eq_ofNat_of_zero_le h
   rw [shl64_nat t x yk m];rfl
 · simp only [v64,binOp_shl]
@[go_sem low] theorem run_shr64_int (P : Program) (w : World) (yk : IntKind) : (binOp .shr t (v64 x) (.int yk n)).run P w = if 0 ≤ n then .ok (v64 (x >>> n.toNat)) w else (Op.shift .shr .u64 x.toNat yk n).run P w := by
 split
 · rename_i h;obtain⟨m,rfl⟩:=Int.eq_ofNat_of_zero_le h
   rw [shr64_nat t x yk m];rfl
 · simp only [v64,binOp_shr]
@[go_sem] theorem shl64_v8 (c : BitVec 8) : binOp .shl t (v64 x) (v8 c) = pure (v64 (x <<< c.toNat)) := shl64_nat t x .u8 c.toNat
@[go_sem] theorem shr64_v8 (c : BitVec 8) : binOp .shr t (v64 x) (v8 c) = pure (v64 (x >>> c.toNat)) := shr64_nat t x .u8 c.toNat
@[go_sem] theorem shl64_v32 (c : BitVec 32) : binOp .shl t (v64 x) (v32 c) = pure (v64 (x <<< c.toNat)) := shl64_nat t x .u32 c.toNat
@[go_sem] theorem shr64_v32 (c : BitVec 32) : binOp .shr t (v64 x) (v32 c) = pure (v64 (x >>> c.toNat)) := shr64_nat t x .u32 c.toNat
@[go_sem] theorem shl64_v64 (c : BitVec 64) : binOp .shl t (v64 x) (v64 c) = pure (v64 (x <<< c.toNat)) := shl64_nat t x .u64 c.toNat
@[go_sem] theorem shr64_v64 (c : BitVec 64) : binOp .shr t (v64 x) (v64 c) = pure (v64 (x >>> c.toNat)) := shr64_nat t x .u64 c.toNat
@[go_sem] theorem eql64_vv : binOp .eql t (v64 x) (v64 y) = pure (.bool (x == y)) := by
 simp only [v64,binOp_eql];congr 2;rw [Bool.eq_iff_iff];simp only [beq_iff_eq,Int.natCast_inj,BitVec.toNat_inj]
@[go_sem] theorem neq64_vv : binOp .neq t (v64 x) (v64 y) = pure (.bool (x != y)) := by
 simp only [v64,binOp_neq];congr 2;rw [Bool.eq_iff_iff];simp only [bne_iff_ne,ne_eq,Int.natCast_inj,BitVec.toNat_inj]
theorem eql64_of(h0:0≤n)(h1:n<2^64):((x.toNat:Int)==n)=(x==BitVec.ofInt 64 n):=by
 rw [Bool.eq_iff_iff];simp only [beq_iff_eq];constructor
 · intro h;subst h;exact(ofInt_nat x).symm
 · intro h;subst h;simp only [BitVec.toNat_ofInt];omega
@[go_sem] theorem eql64_vl (m : Nat) (h1 : m < 2 ^ 64) : binOp .eql t (v64 x) (.int .u64 (no_index (OfNat.ofNat m))) = pure (.bool (x == BitVec.ofNat 64 m)) := by
 simp only [v64,binOp_eql];congr 2;rw [←ofInt_nat'];exact eql64_of x (m:Int) (by omega) (Int.lt_of_lt_of_le (Int.ofNat_lt.2 h1) (by decide))
@[go_sem] theorem neq64_vl (m : Nat) (h1 : m < 2 ^ 64) : binOp .neq t (v64 x) (.int .u64 (no_index (OfNat.ofNat m))) = pure (.bool (x != BitVec.ofNat 64 m)) := by
 simp only [v64,binOp_neq,bne];congr 3;rw [←ofInt_nat'];exact eql64_of x (m:Int) (by omega) (Int.lt_of_lt_of_le (Int.ofNat_lt.2 h1) (by decide))
@[go_sem] theorem lss64_vv : binOp .lss t (v64 x) (v64 y) = pure (.bool (decide ((x.toNat : Int) < y.toNat))) := by simp only [v64, binOp_lss]
@[go_sem] theorem lss64_vi : binOp .lss t (v64 x) (.int .u64 n) = pure (.bool (decide ((x.toNat : Int) < n))) := by simp only [v64, binOp_lss]
@[go_sem] theorem lss64_iv : binOp .lss t (.int .u64 n) (v64 y) = pure (.bool (decide (n < (y.toNat : Int)))) := by simp only [v64, binOp_lss]
@[go_sem] theorem leq64_vv : binOp .leq t (v64 x) (v64 y) = pure (.bool (decide ((x.toNat : Int) ≤ y.toNat))) := by simp only [v64, binOp_leq]
@[go_sem] theorem leq64_vi : binOp .leq t (v64 x) (.int .u64 n) = pure (.bool (decide ((x.toNat : Int) ≤ n))) := by simp only [v64, binOp_leq]
@[go_sem] theorem leq64_iv : binOp .leq t (.int .u64 n) (v64 y) = pure (.bool (decide (n ≤ (y.toNat : Int)))) := by simp only [v64, binOp_leq]
@[go_sem] theorem gtr64_vv : binOp .gtr t (v64 x) (v64 y) = pure (.bool (decide ((x.toNat : Int) > y.toNat))) := by simp only [v64, binOp_gtr]
@[go_sem] theorem gtr64_vi : binOp .gtr t (v64 x) (.int .u64 n) = pure (.bool (decide ((x.toNat : Int) > n))) := by simp only [v64, binOp_gtr]
@[go_sem] theorem gtr64_iv : binOp .gtr t (.int .u64 n) (v64 y) = pure (.bool (decide (n > (y.toNat : Int)))) := by simp only [v64, binOp_gtr]
@[go_sem] theorem geq64_vv : binOp .geq t (v64 x) (v64 y) = pure (.bool (decide ((x.toNat : Int) ≥ y.toNat))) := by simp only [v64, binOp_geq]
@[go_sem] theorem geq64_vi : binOp .geq t (v64 x) (.int .u64 n) = pure (.bool (decide ((x.toNat : Int) ≥ n))) := by simp only [v64, binOp_geq]
@[go_sem] theorem geq64_iv : binOp .geq t (.int .u64 n) (v64 y) = pure (.bool (decide (n ≥ (y.toNat : Int)))) := by simp only [v64, binOp_geq]
@[go_sem] theorem quo64_vl (m : Nat) (h0 : m ≠ 0) (h1 : m < 2 ^ 64) : binOp .quo t (v64 x) (.int .u64 (no_index (OfNat.ofNat m))) = pure (v64 (x / BitVec.ofNat 64 m)) := by
 show binOp .quo t (v64 x) (.int .u64 (m:Int))=_
 simp only [v64,binOp_quo,Op.intDiv]
 rw [if_neg (by omega)]
 simp only [int64]
 rw [Int.tdiv_eq_ediv_of_nonneg (by omega),←Int.natCast_ediv,ofInt_nat']
 congr 2
 apply BitVec.eq_of_toNat_eq
 simp [BitVec.toNat_udiv]
 rw [Nat.mod_eq_of_lt h1,Nat.mod_eq_of_lt]
 exact Nat.lt_of_le_of_lt (Nat.div_le_self _ _) x.isLt
@[go_sem] theorem rem64_vl (m : Nat) (h0 : m ≠ 0) (h1 : m < 2 ^ 64) : binOp .rem t (v64 x) (.int .u64 (no_index (OfNat.ofNat m))) = pure (v64 (x % BitVec.ofNat 64 m)) := by
 show binOp .rem t (v64 x) (.int .u64 (m:Int))=_
 simp only [v64,binOp_rem,Op.intDiv]
 rw [if_neg (by omega)]
 rw [Int.tmod_eq_emod_of_nonneg (by omega),←Int.natCast_emod]
 congr 3
 simp [BitVec.toNat_umod]
 rw [Nat.mod_eq_of_lt h1]
@[go_sem] theorem not64 : Op.unary .xor (v64 x) = pure (v64 (~~~x)) := by
 simp only [v64,Op.unary,intBits_xor64,ofInt_nat]
 have e:BitVec.ofInt 64 (if IntKind.u64.signed then-1 else IntKind.u64.max)=BitVec.allOnes 64:=by decide
 rw [e,BitVec.allOnes_xor]
@[go_sem] theorem neg64 : Op.unary .neg (v64 x) = pure (v64 (-x)) := by
 simp only [v64,Op.unary,Op.intArith,int64,ofInt_sub,ofInt_nat];simp
@[go_sem] theorem eqGuard64 (a b : Operand) (u : Value) : eqGuard op t a b (v64 x) u = pure () := eqGuard_at_int op t a b u .u64 x.toNat
@[go_sem] theorem asIntOf64 : asIntOf (v64 x) = pure (.u64, (x.toNat : Int)) := rfl
@[go_sem] theorem asInt64 : asInt (v64 x) = pure (x.toNat : Int) := rfl
@[go_sem high, simp] theorem cells64 : (v64 x).cells = #[v64 x] := rfl
@[go_sem] theorem one64 : (v64 x).oneCell' = true := rfl
@[go_sem] theorem run_store64 (P : Program) (w : World) (a : Addr) (m : Mode) : (store a (v64 x) m).run P w = stored P w a (v64 x) m := run_store P w a _ m rfl
@[go_sem] theorem run_storeCells64 (P : Program) (w : World) (a : Addr) : (storeCells a [v64 x]).run P w = stored P w a (v64 x) .plain := by
 have e:a.add 0=a:=by simp [Addr.add]
 simp only [storeCells,e,Sem.run_bind,run_store64,Sem.run_pure]
 generalize stored P w a (v64 x) .plain=r
 cases r<;>rfl
@[go_sem] theorem cells_match64 (f : Array Value → Array Value) (g : Value → Array Value) : Value.cells.match_1 (fun _ => Array Value) (v64 x) f g = g (v64 x) := rfl
@[go_sem] theorem run_equalIn64 (P : Program) (w : World) (d : Nat) (k : IntKind) (h : P.underlying t = some (.int k)) : (Op.equalIn (d + 1) t (v64 x) (v64 y)).run P w = .ok (x == y) w := by
 simp only [v64,run_equalIn_int w d t .u64 k _ _ h]
 congr 1;rw [Bool.eq_iff_iff];simp only [beq_iff_eq,Int.natCast_inj,BitVec.toNat_inj]
theorem conv64(P:Program)(s d:TypeId)(k:IntKind)(w:World)(hs:(P.underlying s).isSome=true)(hd:P.underlying d=some (.int k)):
   (convert s d (v64 x)).run P w= .ok (.int k (k.wrap x.toNat)) w:=by
 obtain⟨e,hs'⟩:=Option.isSome_iff_exists.mp hs
 simp [convert,run_underlying hs',run_underlying hd,Conv.intToInt,v64]
theorem conv64_8(P:Program)(s d:TypeId)(w:World)(hs:(P.underlying s).isSome=true)(hd:P.underlying d=some (.int .u8)):
   (convert s d (v64 x)).run P w= .ok (v8 (x.setWidth 8)) w:=by
 rw [conv64 x P s d _ w hs hd,int8,ofInt_nat'];congr 2<;>(apply BitVec.eq_of_toNat_eq;simp)
theorem conv64_32(P:Program)(s d:TypeId)(w:World)(hs:(P.underlying s).isSome=true)(hd:P.underlying d=some (.int .u32)):
   (convert s d (v64 x)).run P w= .ok (v32 (x.setWidth 32)) w:=by
 rw [conv64 x P s d _ w hs hd,int32,ofInt_nat'];congr 2<;>(apply BitVec.eq_of_toNat_eq;simp)
theorem conv64_64(P:Program)(s d:TypeId)(w:World)(hs:(P.underlying s).isSome=true)(hd:P.underlying d=some (.int .u64)):
   (convert s d (v64 x)).run P w= .ok (v64 x) w:=by
 rw [conv64 x P s d _ w hs hd,int64,ofInt_nat'];congr 2;simp
theorem conv_int64(P:Program)(s d:TypeId)(k:IntKind)(w:World)(hs:(P.underlying s).isSome=true)(hd:P.underlying d=some (.int .u64)):
   (convert s d (.int k n)).run P w= .ok (v64 (BitVec.ofInt 64 n)) w:=by
 obtain⟨e,hs'⟩:=Option.isSome_iff_exists.mp hs
 simp [convert,run_underlying hs',run_underlying hd,Conv.intToInt,int64]
end w64
theorem conv8_i64(x:BitVec 8)(P:Program)(s d:TypeId)(w:World)(hs:(P.underlying s).isSome=true)(hd:P.underlying d=some (.int .i64)):
   (convert s d (v8 x)).run P w= .ok (.int .i64 x.toNat) w:=by
 rw [conv8 x P s d _ w hs hd,IntWalk.i64_in _ (by have:=x.isLt;omega)]
theorem conv32_i64(x:BitVec 32)(P:Program)(s d:TypeId)(w:World)(hs:(P.underlying s).isSome=true)(hd:P.underlying d=some (.int .i64)):
   (convert s d (v32 x)).run P w= .ok (.int .i64 x.toNat) w:=by
 rw [conv32 x P s d _ w hs hd,IntWalk.i64_in _ (by have:=x.isLt;omega)]
end Go.Proofs.YtneacgpmjlocjaaGreatDoor
