/-
  Texts of the program, walked, and plain ones. Conditions: those written in each theorem.
-/
import Derived.Test.YtneacgpmjlocjaaGreatDoorZTopWrapped0
import Derived.Test.YtneacgpmjlocjaaGreatDoorZTopWrapped3
import Derived.Test.YtneacgpmjlocjaaGreatDoorZTopWrapped2
import Derived.WalkKit
import Derived.ProofKit
import Derived.OpenShut
import Derived.ShutString
import Derived.ChangeOld
import Derived.Below
import Derived.Deep.Slices
import Derived.RegionTactic
import Derived.ChangeAlike
import Derived.ArgAppend
set_option linter.unusedSimpArgs false
set_option linter.unusedVariables false
set_option maxHeartbeats 16000000
open Go.Lib (hid)
namespace Go.Proofs.YtneacgpmjlocjaaGreatDoor
open Go
theorem both_zero(a:List Byte)(h:a.length=16):bothL a (zer 16)=a:=nth_ext (by rw [bothL_length,h]) fun i hi=>by
 rw [bothL_length]at hi
 rw [bothL_nth _ _ _ hi,zer,nth_tab hi];simp
theorem both_comm(a b:List Byte):bothL a b=bothL b a:=nth_ext (by simp [bothL_length]) fun i hi=>by
 rw [bothL_length]at hi
 rw [bothL_nth _ _ _ hi,bothL_nth _ _ _ hi,BitVec.xor_comm]
theorem both_assoc(a b c:List Byte):bothL (bothL a b) c=bothL a (bothL b c):=nth_ext (by simp [bothL_length]) fun i hi=>by
 rw [bothL_length]at hi
 rw [bothL_nth _ _ _ hi,bothL_nth _ _ _ hi,bothL_nth _ _ _ hi,bothL_nth _ _ _ hi,BitVec.xor_assoc]
theorem zero_both(a:List Byte)(h:a.length=16):bothL (zer 16) a=a:=by rw [both_comm,both_zero a h]
theorem both_self(a:List Byte):bothL a a=zer 16:=nth_ext (by rw [bothL_length,zer_length]) fun i hi=>by
 rw [bothL_length]at hi
 rw [bothL_nth _ _ _ hi,zer,nth_tab hi];simp
theorem both_back(a b:List Byte)(h:a.length=16):bothL (bothL a b) b=a:=by rw [both_assoc,both_self,both_zero a h]
theorem both_four(a b c d:List Byte):bothL (bothL a b) (bothL c d)=bothL (bothL a c) (bothL b d):=by
 rw [both_assoc,both_assoc,←both_assoc b c d,both_comm b c,both_assoc c b d]
def dblF(a:List Byte)(i:Nat):Byte:=if i<15 then(nth a i<<<1)|||(nth a (i+1)>>>7)else(nth a 15<<<1)^^^((nth a 0>>>7)*135#8)
def dblL(a:List Byte):List Byte:=tab 16 (dblF a)
theorem dblL_length(a:List Byte):(dblL a).length=16:=tab_length
def dblN(a:List Byte):Nat→List Byte
 |0=>a
 |n+1=>dblL (dblN a n)
theorem dblN_length(a:List Byte)(h:a.length=16):∀n,(dblN a n).length=16
 |0=>h
 |_+1=>dblL_length _
theorem dblN_add(a:List Byte)(m:Nat):∀n,dblN a (m+n)=dblN (dblN a m) n
 |0=>rfl
 |n+1=>by rw [←Nat.add_assoc,dblN,dblN_add a m n];rfl
def bitA(a:List Byte)(i:Nat):Bool:=(nth a (15-i/8)).getLsbD (i%8)
theorem bits_ext {a b:List Byte}(ha:a.length=16)(hb:b.length=16)(h:∀i,i<128→bitA a i=bitA b i):a=b:=nth_ext (by rw [ha,hb]) fun k hk=>by
 rw [ha]at hk
 apply BitVec.eq_of_getLsbD_eq
 intro r hr
 have:=h (8*(15-k)+r) (by omega)
 unfold bitA at this
 rwa [show(8*(15-k)+r)/8=15-k from by omega,show(8*(15-k)+r)%8=r from by omega,show 15-(15-k)=k from by omega]at this
theorem bit_both(a b:List Byte)(i:Nat):bitA (bothL a b) i=(bitA a i^^bitA b i):=by
 unfold bitA;rw [bothL_nth _ _ _ (by omega),BitVec.getLsbD_xor]
theorem bit_zer(i:Nat):bitA (zer 16) i=false:=by unfold bitA;rw [zer,nth_tab (by omega)];simp
def spec(i:Nat):Bool:=i==0||i==1||i==2||i==7
theorem spec_bits:∀(b:Byte)(r:Fin 8),((b>>>7)*135#8).getLsbD r.val=(b.getLsbD 7&&spec r.val):=by decide+kernel
theorem spec_at(b:Byte)(r:Nat)(hr:r<8):((b>>>7)*135#8).getLsbD r=(b.getLsbD 7&&spec r):=spec_bits b ⟨r,hr⟩
theorem bit_dbl(a:List Byte)(i:Nat)(hi:i<128):bitA (dblL a) i=((decide (i≠0)&&bitA a (i-1))^^(bitA a 127&&spec i)):=by
 unfold bitA
 rw [dblL,nth_tab (by omega),dblF]
 by_cases hq:i<8
 · rw [if_neg (by omega),show i%8=i from by omega,BitVec.getLsbD_xor,spec_at _ i hq,BitVec.getLsbD_shiftLeft]
   rcases Nat.eq_zero_or_pos i with rfl|h0
   · simp
   · rw [show(i-1)/8=0 from by omega,show(i-1)%8=i-1 from by omega]
     have h1:i≠0:=by omega
     have h2:¬i<1:=by omega
     simp [h1,h2,hq]
 · rw [if_pos (by omega),BitVec.getLsbD_or,BitVec.getLsbD_shiftLeft,BitVec.getLsbD_ushiftRight]
   have hs:spec i=false:=by unfold spec;simp;omega
   have h1:i≠0:=by omega
   rw [hs]
   rcases Nat.eq_zero_or_pos (i%8)with h0|h0
   · rw [h0,show(i-1)/8=i/8-1 from by omega,show(i-1)%8=7 from by omega,show 15-(i/8-1)=15-i/8+1 from by omega]
     simp [h1]
   · rw [show(i-1)/8=i/8 from by omega,show(i-1)%8=i%8-1 from by omega]
     have h2:¬i%8<1:=by omega
     have h3:i%8<8:=by omega
     have h4:(nth a (15-i/8+1)).getLsbD (7+i%8)=false:=BitVec.getLsbD_of_ge _ _ (by omega)
     have h5:i%8≠0:=by omega
     simp [h1,h2,h3,h4,h5]
theorem dbl_both(a b:List Byte):dblL (bothL a b)=bothL (dblL a) (dblL b):=bits_ext (dblL_length _) (bothL_length _ _) fun i hi=>by
 rw [bit_both,bit_dbl _ _ hi,bit_dbl _ _ hi,bit_dbl _ _ hi,bit_both,bit_both]
 cases decide (i≠0)<;>cases bitA a (i-1)<;>cases bitA b (i-1)<;>cases bitA a 127<;>cases bitA b 127<;>cases spec i<;>rfl
theorem dblN_both(a b:List Byte):∀n,dblN (bothL a b) n=bothL (dblN a n) (dblN b n)
 |0=>rfl
 |n+1=>by rw [dblN,dblN_both a b n,dbl_both];rfl
theorem dbl_zer:dblL (zer 16)=zer 16:=bits_ext (dblL_length _) zer_length fun i hi=>by rw [bit_dbl _ _ hi,bit_zer,bit_zer,bit_zer];simp
theorem dblN_zer:∀n,dblN (zer 16) n=zer 16
 |0=>rfl
 |n+1=>by rw [dblN,dblN_zer n,dbl_zer]
def msum(c:Nat→Bool)(a:List Byte):Nat→List Byte
 |0=>zer 16
 |k+1=>if c k=true then bothL (msum c a k) (dblN a k)else msum c a k
theorem msum_length(c:Nat→Bool)(a:List Byte):∀k,(msum c a k).length=16
 |0=>zer_length
 |k+1=>by rw [msum];split;exact bothL_length _ _;exact msum_length c a k
theorem msum_congr {c d:Nat→Bool}(a:List Byte):∀k,(∀i,i<k→c i=d i)→msum c a k=msum d a k
 |0,_=>rfl
 |k+1,h=>by rw [msum,msum,h k (by omega),msum_congr a k fun i hi=>h i (by omega)]
theorem msum_both(c:Nat→Bool)(a b:List Byte):∀k,msum c (bothL a b) k=bothL (msum c a k) (msum c b k)
 |0=>(both_zero (zer 16) zer_length).symm
 | k +1=>by
   have ih:=msum_both c a b k
   by_cases h:c k=true
   · simp only [msum,if_pos h]
     rw [ih,dblN_both,both_four]
   · simp only [msum,if_neg h]
     exact ih
theorem msum_xor(c d:Nat→Bool)(a:List Byte)(ha:a.length=16):∀k,msum (fun i=>c i^^d i) a k=bothL (msum c a k) (msum d a k)
 |0=>(both_zero (zer 16) zer_length).symm
 | k+1=>by
   rw [msum,msum,msum,msum_xor c d a ha k]
   cases c k<;>cases d k<;>simp only [Bool.xor_false,Bool.xor_true,Bool.not_true,Bool.not_false,if_true,if_false,Bool.false_eq_true]
   · rw [both_assoc]
   · rw [both_assoc,both_comm (msum d a k),←both_assoc]
   · rw [both_four,both_self,both_zero _ (bothL_length _ _)]
theorem msum_none(c:Nat→Bool)(a:List Byte)(n:Nat)(h:∀i,n≤i→c i=false):∀k,msum c a (n+k)=msum c a n
 |0=>rfl
 |k+1=>by rw [←Nat.add_assoc,msum,h _ (by omega),if_neg (by decide),msum_none c a n h k]
theorem msum_none'(c:Nat→Bool)(a:List Byte){n m:Nat}(hm:n≤m)(h:∀i,n≤i→i<m→c i=false):msum c a m=msum c a n:=by
 have e:msum c a m=msum (fun i=>c i&&decide (i<n)) a m:=msum_congr a m fun i hi=>by
   by_cases hn:i<n
   · simp [hn]
   · simp [hn,h i (by omega) hi]
 rw [e,show m=n+(m-n)from by omega,msum_none _ _ _ (fun i hi=>by simp;omega)]
 exact msum_congr a n fun i hi=>by simp [hi]
theorem msum_dblN(c:Nat→Bool)(a:List Byte)(m:Nat):∀k,msum c (dblN a m) k=dblN (msum c a k) m
 |0=>by rw [msum,msum,dblN_zer]
 | k +1=>by
   have ih:=msum_dblN c a m k
   by_cases h:c k=true
   · simp only [msum,if_pos h]
     rw [ih,dblN_both,←dblN_add,←dblN_add,Nat.add_comm]
   · simp only [msum,if_neg h]
     exact ih
theorem msum_shift(c:Nat→Bool)(a:List Byte):∀k,msum (fun i=>decide (i≠0)&&c (i-1)) a (k+1)=dblL (msum c a k)
 |0=>by rw [msum,msum,msum];simp [dbl_zer]
 | k+1=>by
   have ih:=msum_shift c a k
   have e:(decide (k+1≠0)&&c (k+1-1))=c k:=by simp
   rw [msum,e,ih]
   by_cases h:c k=true
   · rw [if_pos h,msum,if_pos h,dbl_both];rfl
   · rw [if_neg h,msum,if_neg h]
def oneL:List Byte:=tab 16 fun i=>if i=15 then 1#8 else 0#8
theorem oneL_length:oneL.length=16:=tab_length
theorem bit_one(j:Nat)(hj:j<128):bitA oneL j=decide (j=0):=by
 unfold bitA
 rw [oneL,nth_tab (by omega)]
 by_cases h:j<8
 · rw [if_pos (by omega),show j%8=j from by omega,BitVec.getLsbD_one];simp
 · rw [if_neg (by omega)];simp;omega
theorem bit_oneN:∀k,k<128→∀j,j<128→bitA (dblN oneL k) j=decide (j=k)
 |0,_,j,hj=>bit_one j hj
 | k +1,hk,j,hj=>by
   rw [dblN,bit_dbl _ _ hj,bit_oneN k (by omega) 127 (by omega),decide_eq_false (show¬127=k by omega)]
   rcases Nat.eq_zero_or_pos j with rfl|h
   · simp
   · rw [bit_oneN k (by omega) (j-1) (by omega)]
     by_cases e:j=k+1
     · subst e;simp
     · rw [decide_eq_false e,decide_eq_false (show¬j-1=k by omega)];simp
theorem bit_msum(c:Nat→Bool):∀k,k≤128→∀j,j<128→bitA (msum c oneL k) j=(decide (j<k)&&c j)
 |0,_,j,_=>by rw [msum,bit_zer];simp
 | k + 1,hk,j,hj=>by
   rw [msum]
   by_cases hc:c k=true
   · rw [if_pos hc,bit_both,bit_msum c k (by omega) j hj,bit_oneN k (by omega) j hj]
     rcases Nat.lt_trichotomy j k with h|h|h
     · simp [h,show j<k+1 by omega,show j≠k by omega]
     · subst h;simp [hc]
     · simp [show¬j<k by omega,show¬j<k+1 by omega,show j≠k by omega]
   · rw [if_neg hc,bit_msum c k (by omega) j hj]
     by_cases h:j=k
     · subst h;simp [hc]
     · by_cases h2:j<k
       · simp [h2,show j<k+1 by omega]
       · simp [h2,show¬j<k+1 by omega]
theorem ev_bits(a:List Byte)(h:a.length=16):msum (bitA a) oneL 128=a:=bits_ext (msum_length _ _ _) h fun i hi=>by rw [bit_msum _ 128 (Nat.le_refl _) i hi];simp [hi]
def topL:List Byte:=msum spec oneL 128
theorem topL_length:topL.length=16:=msum_length _ _ _
theorem one_128:dblN oneL 128=topL:=bits_ext (dblN_length _ oneL_length _) topL_length fun i hi=>by
 rw [topL,bit_msum _ 128 (Nat.le_refl _) i hi,show(128:Nat)=127+1 from rfl,dblN,bit_dbl _ _ hi,bit_oneN 127 (by omega) 127 (by omega),bit_oneN 127 (by omega) (i-1) (by omega),decide_eq_false (show¬i-1=127 by omega)]
 simp [hi]
theorem dbl_128(a:List Byte)(h:a.length=16):dblN a 128=msum spec a 128:=by
 have e:dblN (msum (bitA a) oneL 128) 128=msum spec (msum (bitA a) oneL 128) 128:=by
   have swap:∀k n,msum spec (msum (bitA a) oneL n) k=msum (bitA a) (msum spec oneL k) n:=by
     intro k n
     induction k with
     | zero=>
       rw [msum,msum]
       induction n with
       |zero=>rfl
       |succ n ih=>rw [msum,dblN_zer,both_zero _ (msum_length _ _ _),ite_self];exact ih
     | succ k ih=>
       rw [msum,msum,ih]
       by_cases h:spec k=true
       · rw [if_pos h,if_pos h,msum_both,msum_dblN]
       · rw [if_neg h,if_neg h]
   rw [swap,←msum_dblN,one_128,topL]
 rwa [ev_bits a h]at e
def prodL(a b:List Byte):List Byte:=msum (bitA b) a 128
theorem prodL_length(a b:List Byte):(prodL a b).length=16:=msum_length _ _ _
theorem prod_dbl(a b:List Byte)(ha:a.length=16):prodL a (dblL b)=dblL (prodL a b):=by
 have e1:prodL a (dblL b)=msum (fun i=>(decide (i≠0)&&bitA b (i-1))^^(bitA b 127&&spec i)) a 128:=msum_congr a 128 fun i hi=>bit_dbl b i hi
 have e2:msum (bitA b) a (127+1)=if bitA b 127=true then bothL (msum (bitA b) a 127) (dblN a 127)else msum (bitA b) a 127:=by rw [msum]
 have e3:=dbl_128 a ha
 rw [show(128:Nat)=127+1 from rfl,dblN]at e3
 rw [e1,msum_xor _ _ _ ha,prodL,show(128:Nat)=127+1 from rfl,msum_shift (bitA b) a 127,e2]
 by_cases h:bitA b 127=true
 · rw [if_pos h,h,dbl_both]
   congr 1
   simp only [Bool.true_and]
   exact e3.symm
 · have h':bitA b 127=false:=by cases hb:bitA b 127<;>simp_all
   rw [if_neg h,h']
   simp only [Bool.false_and]
   rw [show msum (fun _=>false) a (127+1)=zer 16 from msum_none' _ a (Nat.zero_le _) fun _ _ _=>rfl,both_zero _ (dblL_length _)]
theorem prod_one(a:List Byte)(ha:a.length=16):prodL a oneL=a:=by
 rw [prodL,show msum (bitA oneL) a 128=msum (bitA oneL) a 1 from msum_none' _ a (by omega) fun i h1 h2=>by rw [bit_one i h2];simp;omega,msum,msum,bit_one 0 (by omega)]
 simp [dblN,zero_both a ha]
theorem prod_pow(a:List Byte)(ha:a.length=16):∀m,prodL a (dblN oneL m)=dblN a m
 |0=>prod_one a ha
 |m+1=>by rw [dblN,prod_dbl _ _ ha,prod_pow a ha m];rfl
def mulL(n:BitVec 64)(a:List Byte):List Byte:=msum n.getLsbD a 64
theorem mulL_length(n:BitVec 64)(a:List Byte):(mulL n a).length=16:=msum_length _ _ _
theorem mul_zero(a:List Byte):mulL 0#64 a=zer 16:=by
 rw [mulL,msum_none' (n:=0) _ a (Nat.zero_le _) fun i _ _=>by simp];rfl
theorem mul_end(n:BitVec 64)(a:List Byte)(k:Nat)(hk:k≤64)(h:n>>>k=0#64):msum n.getLsbD a k=mulL n a:=by
 rw [mulL,msum_none' _ a hk]
 intro i h1 h2
 have:=congrArg (fun z=>z.getLsbD (i-k)) h
 simp only [BitVec.getLsbD_ushiftRight]at this
 rw [show k+(i-k)=i from by omega]at this
 simpa using this
def bb(c:Bool):Byte:=if c=true then 1#8 else 0#8
def pc(p:List Byte)(i:Nat):Bool:=(nth p i).getLsbD 0
def isP(p:List Byte):Prop:=p.length=256∧∀i,nth p i=bb (pc p i)
def evP(l:List Byte):List Byte:=msum (pc l) oneL 256
def cmK(p out:List Byte)(i:Nat):Nat→List Byte
 |0=>out
 |k+1=>setN (cmK p out i k) (i+k) (nth (cmK p out i k) (i+k)^^^nth p k)
def cmI(p q:List Byte):Nat→List Byte
 |0=>zer 256
 |i+1=>if nth q i=0#8 then cmI p q i else cmK p (cmI p q i) i 128
def put1(l:List Byte)(i:Nat):List Byte:=setN l i (nth l i^^^1#8)
def rd1(l:List Byte)(i a b c:Nat):List Byte:=
 if nth l i=1#8 then put1 (put1 (put1 (put1 (setN l i 0#8) (i-128+a)) (i-128+b)) (i-128+c)) (i-128)else l
def rdF(l:List Byte)(a b c:Nat):Nat→List Byte
 |0=>l
 |j+1=>rd1 (rdF l a b c j) (254-j) a b c
def restL(p q:List Byte)(a b c:Nat):List Byte:=rdF (cmI p q 128) a b c 127
def hiF(p:List Byte):Nat→List Byte
 |0=>zer 16
 |k+1=>setN (hiF p k) (15-k/8) (nth (hiF p k) (15-k/8)+(nth p k<<<(k%8)))
def highF(a:List Byte)(k:Nat):Byte:=(nth a (15-k/8)>>>(k%8))%2#8
def highL(a:List Byte):List Byte:=part 256 128 (highF a) fun _=>0
def numF(n:BitVec 64)(k:Nat):Byte:=((n>>>k)%2#64).setWidth 8
def numL(n:BitVec 64):List Byte:=part 256 64 (numF n) fun _=>0
def dbl(a:Byte):Byte:=(a<<<1)^^^((a>>>7)*27#8)
def tmsG:Nat→Byte→Byte→Byte
 |0,_,_=>0#8
 |n+1,a,b=>(a*(b&&&1#8))^^^tmsG n (dbl a) (b>>>1)
def tms(a b:Byte):Byte:=tmsG 8 a b
theorem bit_cases(b:Byte):b&&&1#8=0#8∨b&&&1#8=1#8:=by revert b;decide+kernel
theorem bit_mul(a x y:Byte):a*((x^^^y)&&&1#8)=(a*(x&&&1#8))^^^(a*(y&&&1#8)):=by
 have e:(x^^^y)&&&1#8=(x&&&1#8)^^^(y&&&1#8):=by
   apply BitVec.eq_of_getLsbD_eq;intro i hi;simp only [BitVec.getLsbD_and,BitVec.getLsbD_xor];cases x.getLsbD i<;>cases y.getLsbD i<;>simp
 rw [e]
 rcases bit_cases x with h|h<;>rcases bit_cases y with k|k<;>rw [h,k]<;>simp
theorem xor4(a b c d:Byte):(a^^^b)^^^(c^^^d)=(a^^^c)^^^(b^^^d):=by
 ac_rfl
theorem tmsG_xb(n:Nat):∀a x y:Byte,tmsG n a (x^^^y)=tmsG n a x^^^tmsG n a y:=by
 induction n with
 |zero=>intros;simp [tmsG]
 |succ n ih=>intro a x y;rw [tmsG,tmsG,tmsG,BitVec.ushiftRight_xor_distrib,ih,bit_mul,xor4]
theorem tmsG_zero(n:Nat):∀a:Byte,tmsG n a 0#8=0#8:=by
 induction n with
 |zero=>intros;rfl
 |succ n ih=>intro a;rw [tmsG];simp [ih]
theorem tms_xb(a x y:Byte):tms a (x^^^y)=tms a x^^^tms a y:=tmsG_xb 8 a x y
def tmsF:Nat→Byte→Byte→Byte→Byte
 |0,_,_,s=>s
 |n+1,a,b,s=>tmsF n (dbl a) (b>>>1) (s^^^(a*(b&&&1#8)))
theorem tmsF_tmsG(n:Nat):∀a b s:Byte,tmsF n a b s=s^^^tmsG n a b:=by
 induction n with
 |zero=>intros;simp [tmsF,tmsG]
 |succ n ih=>intro a b s;rw [tmsF,ih,tmsG,BitVec.xor_assoc]
theorem tmsF_tms(a b:Byte):tmsF 8 a b 0#8=tms a b:=by rw [tmsF_tmsG];simp [tms]
theorem tmsF_end(n:Nat)(a s:Byte):tmsF n a 0#8 s=s:=by rw [tmsF_tmsG,tmsG_zero];simp
theorem xor_zero {x y:Byte}(h:x^^^y=0#8):x=y:=BitVec.xor_eq_zero_iff.1 h
/-! ### Powers -/
def gpow(a:Byte):Nat→Byte
 |0=>1#8
 |n+1=>tms (gpow a n) a
def pwS:Nat→Byte→Byte→Nat→Byte
 |0,out,_,_=>out
 |f+1,out,a,n=>pwS f (if n%2=1 then tms out a else out) (tms a a) (n/2)
def inv(a:Byte):Byte:=pwS 8 1#8 a 254
/-! ### The reference's product: polynomials, and their rest -/
def sel(c:Bool)(x:BitVec 16):BitVec 16:=if c then x else 0#16
def rp(a b:Byte):Nat→BitVec 16
 |0=>0#16
 |k+1=>rp a b k^^^sel (b.getLsbD k) (a.setWidth 16<<<k)
def rr(p:BitVec 16):Nat→BitVec 16
 |0=>p
 |j+1=>rr p j^^^sel ((rr p j).getLsbD (14-j)) (283#16<<<(6-j))
def rtms(a b:Byte):Byte:=(rr (rp a b 8) 7).setWidth 8
/-! ### Boxes -/
def rotl8(x:Byte)(k:Nat):Byte:=(x<<<k)|||(x>>>(8-k))
def boxF(i:Byte):Nat→Byte
 |0=>99#8
 |k+1=>boxF i k^^^rotl8 i k
def sbox(a:Byte):Byte:=boxF (inv a) 5
def pws:Nat→Byte
 |0=>1#8
 |k+1=>pws k^^^dbl (pws k)
def putT(l:List Byte)(a b:Byte):List Byte:=setN (setN l a.toNat b) (256+b.toNat) a
def tabT:Nat→List Byte
 |0=>putT (zer 512) 0#8 (boxF 0#8 5)
 |k+1=>putT (tabT k) (pws k) (boxF (pws ((255-k)%255)) 5)
theorem putT_length(l:List Byte)(a b:Byte):(putT l a b).length=l.length:=by simp [putT]
theorem tabT_length(k:Nat):(tabT k).length=512:=by
 induction k with
 |zero=>simp [tabT,putT_length]
 |succ k ih=>rw [tabT,putT_length,ih]
def tabs:List Byte:=tabT 255
theorem tabs_length:tabs.length=512:=tabT_length 255
def bxTo(a:Byte):Byte:=nth tabs a.toNat
def bxBack(a:Byte):Byte:=nth tabs (256+a.toNat)
/-! ### The table, written out -/
def tabsL:List Byte:=[
 99#8,124#8,119#8,123#8,242#8,107#8,111#8,197#8,48#8,1#8,103#8,43#8,254#8,215#8,171#8,118#8,202#8,130#8,201#8,125#8,250#8,89#8,71#8,240#8,173#8,212#8,162#8,175#8,156#8,164#8,114#8,192#8,
 183#8,253#8,147#8,38#8,54#8,63#8,247#8,204#8,52#8,165#8,229#8,241#8,113#8,216#8,49#8,21#8,4#8,199#8,35#8,195#8,24#8,150#8,5#8,154#8,7#8,18#8,128#8,226#8,235#8,39#8,178#8,117#8,
 9#8,131#8,44#8,26#8,27#8,110#8,90#8,160#8,82#8,59#8,214#8,179#8,41#8,227#8,47#8,132#8,83#8,209#8,0#8,237#8,32#8,252#8,177#8,91#8,106#8,203#8,190#8,57#8,74#8,76#8,88#8,207#8,
 208#8,239#8,170#8,251#8,67#8,77#8,51#8,133#8,69#8,249#8,2#8,127#8,80#8,60#8,159#8,168#8,81#8,163#8,64#8,143#8,146#8,157#8,56#8,245#8,188#8,182#8,218#8,33#8,16#8,255#8,243#8,210#8,
 205#8,12#8,19#8,236#8,95#8,151#8,68#8,23#8,196#8,167#8,126#8,61#8,100#8,93#8,25#8,115#8,96#8,129#8,79#8,220#8,34#8,42#8,144#8,136#8,70#8,238#8,184#8,20#8,222#8,94#8,11#8,219#8,
 224#8,50#8,58#8,10#8,73#8,6#8,36#8,92#8,194#8,211#8,172#8,98#8,145#8,149#8,228#8,121#8,231#8,200#8,55#8,109#8,141#8,213#8,78#8,169#8,108#8,86#8,244#8,234#8,101#8,122#8,174#8,8#8,
 186#8,120#8,37#8,46#8,28#8,166#8,180#8,198#8,232#8,221#8,116#8,31#8,75#8,189#8,139#8,138#8,112#8,62#8,181#8,102#8,72#8,3#8,246#8,14#8,97#8,53#8,87#8,185#8,134#8,193#8,29#8,158#8,
 225#8,248#8,152#8,17#8,105#8,217#8,142#8,148#8,155#8,30#8,135#8,233#8,206#8,85#8,40#8,223#8,140#8,161#8,137#8,13#8,191#8,230#8,66#8,104#8,65#8,153#8,45#8,15#8,176#8,84#8,187#8,22#8,
 82#8,9#8,106#8,213#8,48#8,54#8,165#8,56#8,191#8,64#8,163#8,158#8,129#8,243#8,215#8,251#8,124#8,227#8,57#8,130#8,155#8,47#8,255#8,135#8,52#8,142#8,67#8,68#8,196#8,222#8,233#8,203#8,
 84#8,123#8,148#8,50#8,166#8,194#8,35#8,61#8,238#8,76#8,149#8,11#8,66#8,250#8,195#8,78#8,8#8,46#8,161#8,102#8,40#8,217#8,36#8,178#8,118#8,91#8,162#8,73#8,109#8,139#8,209#8,37#8,
 114#8,248#8,246#8,100#8,134#8,104#8,152#8,22#8,212#8,164#8,92#8,204#8,93#8,101#8,182#8,146#8,108#8,112#8,72#8,80#8,253#8,237#8,185#8,218#8,94#8,21#8,70#8,87#8,167#8,141#8,157#8,132#8,
 144#8,216#8,171#8,0#8,140#8,188#8,211#8,10#8,247#8,228#8,88#8,5#8,184#8,179#8,69#8,6#8,208#8,44#8,30#8,143#8,202#8,63#8,15#8,2#8,193#8,175#8,189#8,3#8,1#8,19#8,138#8,107#8,
 58#8,145#8,17#8,65#8,79#8,103#8,220#8,234#8,151#8,242#8,207#8,206#8,240#8,180#8,230#8,115#8,150#8,172#8,116#8,34#8,231#8,173#8,53#8,133#8,226#8,249#8,55#8,232#8,28#8,117#8,223#8,110#8,
 71#8,241#8,26#8,113#8,29#8,41#8,197#8,137#8,111#8,183#8,98#8,14#8,170#8,24#8,190#8,27#8,252#8,86#8,62#8,75#8,198#8,210#8,121#8,32#8,154#8,219#8,192#8,254#8,120#8,205#8,90#8,244#8,
 31#8,221#8,168#8,51#8,136#8,7#8,199#8,49#8,177#8,18#8,16#8,89#8,39#8,128#8,236#8,95#8,96#8,81#8,127#8,169#8,25#8,181#8,74#8,13#8,45#8,229#8,122#8,159#8,147#8,201#8,156#8,239#8,
 160#8,224#8,59#8,77#8,174#8,42#8,245#8,176#8,200#8,235#8,187#8,60#8,131#8,83#8,153#8,97#8,23#8,43#8,4#8,126#8,186#8,119#8,214#8,38#8,225#8,105#8,20#8,99#8,85#8,33#8,12#8,125#8]
theorem tabs_lit:tabs=tabsL:=by decide+kernel
theorem bxTo_lit(a:Byte):bxTo a=nth tabsL a.toNat:=by rw [bxTo,tabs_lit]
theorem bxBack_lit(a:Byte):bxBack a=nth tabsL (256+a.toNat):=by rw [bxBack,tabs_lit]
theorem back_to(a:Byte):bxBack (bxTo a)=a:=by rw [bxBack_lit,bxTo_lit];revert a;decide+kernel
def rbit(a:Byte)(k:Nat):Byte:=a>>>(k%8)%2#8
def rbx(i:Byte):Nat→Byte
 |0=>0#8
 |k+1=>rbx i k|||((rbit i k^^^rbit i (k+7)^^^rbit i (k+6)^^^rbit i (k+5)^^^rbit i (k+4)^^^rbit 99#8 k)<<<k)
def mixesL:List Byte:=[2#8,3#8,1#8,1#8]
def unmixesL:List Byte:=[14#8,11#8,13#8,9#8]
def brg(by_:List Byte)(row:Nat)(a:Byte):Nat→BitVec 32
 |0=>0#32
 |r+1=>brg by_ row a r|||((tms (nth by_ ((row+4-r)%4)) a).setWidth 32<<<(8*r))
def mixF(i:Nat):BitVec 32:=brg mixesL (i/256) (bxTo (BitVec.ofNat 8 (i%256))) 4
def unmixF(i:Nat):BitVec 32:=brg unmixesL (i/256) (BitVec.ofNat 8 (i%256)) 4
def mixT:List (BitVec 32):=tab 1024 mixF
def unmixT:List (BitVec 32):=tab 1024 unmixF
theorem mixT_length:mixT.length=1024:=tab_length
theorem unmixT_length:unmixT.length=1024:=tab_length
theorem mixT_nth(row:Nat)(a:Byte)(h:row<4):nth mixT (row*256+a.toNat)=brg mixesL row (bxTo a) 4:=by
 have ha:a.toNat<256:=a.isLt
 rw [mixT,nth_tab (by omega),mixF,show(row*256+a.toNat)/256=row from by omega,show(row*256+a.toNat)%256=a.toNat from by omega]
 simp
theorem unmixT_nth(row:Nat)(a:Byte)(h:row<4):nth unmixT (row*256+a.toNat)=brg unmixesL row a 4:=by
 have ha:a.toNat<256:=a.isLt
 rw [unmixT,nth_tab (by omega),unmixF,show(row*256+a.toNat)/256=row from by omega,show(row*256+a.toNat)%256=a.toNat from by omega]
 simp
def byteW(n:BitVec 32)(r:Nat):Byte:=(n>>>(8*r)).setWidth 8
theorem byteW_xor(n m:BitVec 32)(r:Nat):byteW (n^^^m) r=byteW n r^^^byteW m r:=by
 simp only [byteW,BitVec.ushiftRight_xor_distrib,BitVec.setWidth_xor]
theorem byteW_or(n m:BitVec 32)(r:Nat):byteW (n|||m) r=byteW n r|||byteW m r:=by
 apply BitVec.eq_of_getLsbD_eq;intro i hi;simp [byteW,hi]
theorem byteW_shl(x:Byte)(s r:Nat)(hs:s<4)(hr:r<4):byteW (x.setWidth 32<<<(8*s)) r=if s=r then x else 0#8:=by
 apply BitVec.eq_of_getLsbD_eq
 intro i hi
 simp only [byteW,BitVec.getLsbD_setWidth,BitVec.getLsbD_ushiftRight,BitVec.getLsbD_shiftLeft,hi,decide_true,Bool.true_and]
 by_cases e:s=r
 · subst e
   rw [if_pos rfl,show decide (8*s+i<8*s)=false from by simp,show 8*s+i-8*s=i from by omega]
   simp [show i<32 by omega];intro _;omega
 · rw [if_neg e]
   by_cases h:8*r+i<8*s
   · simp [h]
   · have:x.getLsbD (8*r+i-8*s)=false:=BitVec.getLsbD_of_ge _ _ (by omega)
     simp [this]
theorem byteW_brg(by_:List Byte)(row:Nat)(a:Byte)(r:Nat)(hr:r<4):byteW (brg by_ row a 4) r=tms (nth by_ ((row+4-r)%4)) a:=by
 have key:∀k,k≤4→byteW (brg by_ row a k) r=if r<k then tms (nth by_ ((row+4-r)%4)) a else 0#8:=by
   intro k
   induction k with
   |zero=>intro _;simp [brg,byteW]
   | succ k ih=>
     intro hk
     rw [brg,byteW_or,ih (by omega),byteW_shl _ _ _ (by omega) hr]
     by_cases h1:r<k
     · rw [if_pos h1,if_neg (by omega),if_pos (by omega)];simp
     · by_cases h2:k=r
       · subst h2;rw [if_neg (by omega),if_pos rfl,if_pos (by omega)];simp
       · rw [if_neg h1,if_neg h2,if_neg (by omega)];simp
 rw [key 4 (by omega),if_pos hr]
def shp(row col:Nat):Nat:=row+4*((col+row)%4)
theorem shp_lt(row col:Nat)(h:row<4):shp row col<16:=by unfold shp;omega
def colW(b key:List Byte)(col:Nat):Nat→BitVec 32
 |0=>(nth key (4*col)).setWidth 32|||((nth key (4*col+1)).setWidth 32<<<8)|||((nth key (4*col+2)).setWidth 32<<<16)|||((nth key (4*col+3)).setWidth 32<<<24)
 |row+1=>colW b key col row^^^brg mixesL row (bxTo (nth b (shp row col))) 4
def rndB(b key:List Byte)(i:Nat):Byte:=byteW (colW b key (i/4) 4) (i%4)
def rnd(b key:List Byte):List Byte:=tab 16 (rndB b key)
def lastB(b key:List Byte)(i:Nat):Byte:=bxTo (nth b (shp (i%4) (i/4)))^^^nth key i
def last(b key:List Byte):List Byte:=tab 16 (lastB b key)
def rnds(b:List Byte):List (List Byte)→List Byte
 |[]=>b
 |k::ks=>rnds (rnd b k) ks
theorem rnd_length(b key:List Byte):(rnd b key).length=16:=tab_length
theorem last_length(b key:List Byte):(last b key).length=16:=tab_length
theorem rnd_nth(b key:List Byte)(i:Nat)(h:i<16):nth (rnd b key) i=nth key i^^^(((tms (nth mixesL ((0+4-i%4)%4)) (bxTo (nth b (shp 0 (i/4))))^^^tms (nth mixesL ((1+4-i%4)%4)) (bxTo (nth b (shp 1 (i/4)))))^^^tms (nth mixesL ((2+4-i%4)%4)) (bxTo (nth b (shp 2 (i/4)))))^^^tms (nth mixesL ((3+4-i%4)%4)) (bxTo (nth b (shp 3 (i/4))))):=by
 rw [rnd,nth_tab h,rndB]
 have hr:i%4<4:=Nat.mod_lt _ (by omega)
 have hk:byteW (colW b key (i/4) 0) (i%4)=nth key i:=by
   have b0:byteW ((nth key (4*(i/4))).setWidth 32) (i%4)=if 0=i%4 then nth key (4*(i/4))else 0#8:=by
     have:=byteW_shl (nth key (4*(i/4))) 0 (i%4) (by omega) hr;simpa using this
   have b1:byteW ((nth key (4*(i/4)+1)).setWidth 32<<<8) (i%4)=if 1=i%4 then nth key (4*(i/4)+1)else 0#8:=byteW_shl _ 1 (i%4) (by omega) hr
   have b2:byteW ((nth key (4*(i/4)+2)).setWidth 32<<<16) (i%4)=if 2=i%4 then nth key (4*(i/4)+2)else 0#8:=byteW_shl _ 2 (i%4) (by omega) hr
   have b3:byteW ((nth key (4*(i/4)+3)).setWidth 32<<<24) (i%4)=if 3=i%4 then nth key (4*(i/4)+3)else 0#8:=byteW_shl _ 3 (i%4) (by omega) hr
   rw [colW,byteW_or,byteW_or,byteW_or,b0,b1,b2,b3]
   have hi:i=4*(i/4)+i%4:=by omega
   rcases (show i%4=0∨i%4=1∨i%4=2∨i%4=3 by omega)with e|e|e|e<;>rw [e]at hi⊢<;>simp<;>exact congrArg (nth key) (by omega)
 simp only [colW]at hk⊢
 simp only [byteW_xor,hk,byteW_brg _ _ _ _ hr]
 ac_rfl
def unbF(b:List Byte):Nat→List Byte
 |0=>zer 16
 |k+1=>setN (unbF b k) (shp (k%4) (k/4)) (bxBack (nth b k))
def unbL(b:List Byte):List Byte:=unbF b 16
theorem unbF_length(b:List Byte)(k:Nat):(unbF b k).length=16:=by
 induction k with
 |zero=>exact zer_length
 |succ k ih=>rw [unbF,setN_length,ih]
theorem unbL_length(b:List Byte):(unbL b).length=16:=unbF_length b 16
def ush(j:Nat):Nat:=j%4+4*((j/4+4-j%4)%4)
theorem ush_lt(j:Nat)(h:j<16):ush j<16:=by unfold ush;omega
theorem shp_ush(j:Nat)(h:j<16):shp (ush j%4) (ush j/4)=j:=by unfold ush shp;omega
theorem shp_is(k j:Nat)(hk:k<16)(hj:j<16):(shp (k%4) (k/4)=j)↔(ush j=k):=by unfold ush shp;omega
theorem unbF_nth(b:List Byte)(j:Nat)(hj:j<16):∀k,k≤16→nth (unbF b k) j=if ush j<k then bxBack (nth b (ush j))else 0#8:=by
 intro k
 induction k with
 |zero=>intro _;rw [if_neg (by omega),unbF,zer,nth_tab hj];rfl
 | succ k ih=>
   intro hk
   rw [unbF,nth_set (by rw [unbF_length];exact hj),ih (by omega)]
   by_cases e:ush j=k
   · rw [if_pos ((shp_is k j (by omega) hj).2 e),if_pos (by omega),e]
   · rw [if_neg (fun h=>e ((shp_is k j (by omega) hj).1 h))]
     by_cases h:ush j<k
     · rw [if_pos h,if_pos (by omega)]
     · rw [if_neg h,if_neg (by omega)]
theorem unbL_nth(b:List Byte)(j:Nat)(h:j<16):nth (unbL b) j=bxBack (nth b (ush j)):=by rw [unbL,unbF_nth b j h 16 (Nat.le_refl _),if_pos (ush_lt j h)]
def cmb(by_:List Byte)(r:Nat)(x:Nat→Byte):Byte:=((tms (nth by_ ((0+4-r)%4)) (x 0)^^^tms (nth by_ ((1+4-r)%4)) (x 1))^^^tms (nth by_ ((2+4-r)%4)) (x 2))^^^tms (nth by_ ((3+4-r)%4)) (x 3)
theorem xor16(a b c d e f g h i j k l m n o p:Byte):(((((a^^^b)^^^c)^^^d)^^^(((e^^^f)^^^g)^^^h))^^^(((i^^^j)^^^k)^^^l))^^^(((m^^^n)^^^o)^^^p)=(((((a^^^e)^^^i)^^^m)^^^(((b^^^f)^^^j)^^^n))^^^(((c^^^g)^^^k)^^^o))^^^(((d^^^h)^^^l)^^^p):=by ac_rfl
theorem cmb_two(u m:List Byte)(r:Nat)(x:Nat→Byte)(q:Nat)(hq:q<4)
   (h:∀k,k<4→∀y:Byte,((tms (nth u ((0+4-r)%4)) (tms (nth m ((k+4-0)%4)) y)^^^tms (nth u ((1+4-r)%4)) (tms (nth m ((k+4-1)%4)) y))^^^tms (nth u ((2+4-r)%4)) (tms (nth m ((k+4-2)%4)) y))^^^tms (nth u ((3+4-r)%4)) (tms (nth m ((k+4-3)%4)) y)=if k=q then y else 0#8):
   cmb u r (fun k=>cmb m k x)=x q:=by
 unfold cmb
 simp only [tms_xb]
 rw [xor16,h 0 (by omega),h 1 (by omega),h 2 (by omega),h 3 (by omega)]
 rcases (show q=0∨q=1∨q=2∨q=3 by omega)with rfl|rfl|rfl|rfl<;>simp
theorem unmix_mix(r:Nat)(hr:r<4)(x:Nat→Byte):cmb unmixesL r (fun k=>cmb mixesL k x)=x r:=by
 refine cmb_two _ _ r x r hr fun k hk=> ?_
 rcases (show r=0∨r=1∨r=2∨r=3 by omega)with rfl|rfl|rfl|rfl<;>rcases (show k=0∨k=1∨k=2∨k=3 by omega)with rfl|rfl|rfl|rfl<;>decide+kernel
def uncW(b:List Byte)(col:Nat):Nat→BitVec 32
 |0=>0#32
 |r+1=>uncW b col r^^^brg unmixesL r (nth b (r+4*col)) 4
def uncB(b:List Byte)(i:Nat):Byte:=byteW (uncW b (i/4) 4) (i%4)
def uncL(b:List Byte):List Byte:=tab 16 (uncB b)
theorem uncL_length(b:List Byte):(uncL b).length=16:=tab_length
theorem uncB_cmb(b:List Byte)(i:Nat):uncB b i=cmb unmixesL (i%4) fun k=>nth b (k+4*(i/4)):=by
 have hr:i%4<4:=Nat.mod_lt _ (by omega)
 have h0:byteW 0#32 (i%4)=0#8:=by simp [byteW]
 simp only [uncB,uncW,byteW_xor,byteW_brg _ _ _ _ hr,h0,BitVec.zero_xor,cmb]
theorem uncL_nth(b:List Byte)(i:Nat)(h:i<16):nth (uncL b) i=cmb unmixesL (i%4) fun k=>nth b (k+4*(i/4)):=by rw [uncL,nth_tab h,uncB_cmb]
theorem rnd_cmb(b key:List Byte)(i:Nat)(h:i<16):nth (rnd b key) i=nth key i^^^cmb mixesL (i%4) fun k=>bxTo (nth b (shp k (i/4))):=rnd_nth b key i h
def unr(b key:List Byte):List Byte:=unbL (uncL (bothL b key))
def unl(b key:List Byte):List Byte:=unbL (bothL b key)
theorem unr_length(b key:List Byte):(unr b key).length=16:=unbL_length _
theorem unl_length(b key:List Byte):(unl b key).length=16:=unbL_length _
theorem xor_back(k x:Byte):(k^^^x)^^^k=x:=by rw [BitVec.xor_comm k x,BitVec.xor_assoc,BitVec.xor_self,BitVec.xor_zero]
theorem cmb_congr(by_:List Byte)(r:Nat)(x y:Nat→Byte)(h:∀k,k<4→x k=y k):cmb by_ r x=cmb by_ r y:=by
 unfold cmb;rw [h 0 (by omega),h 1 (by omega),h 2 (by omega),h 3 (by omega)]
theorem unr_rnd(b key:List Byte)(hb:b.length=16):unr (rnd b key) key=b:=by
 apply nth_ext (by rw [unr_length,hb])
 intro j hj
 rw [unr_length]at hj
 have hu:=ush_lt j hj
 have h4:ush j%4<4:=Nat.mod_lt _ (by omega)
 rw [unr,unbL_nth _ _ hj,uncL_nth _ _ hu]
 have:(cmb unmixesL (ush j%4) fun k=>nth (bothL (rnd b key) key) (k+4*(ush j/4)))=cmb unmixesL (ush j%4) fun k=>cmb mixesL k fun q=>bxTo (nth b (shp q (ush j/4))):=by
   apply cmb_congr
   intro k hk
   rw [bothL_nth _ _ _ (by omega),rnd_cmb _ _ _ (by omega),xor_back,show(k+4*(ush j/4))%4=k from by omega,show(k+4*(ush j/4))/4=ush j/4 from by omega]
 rw [this,unmix_mix _ h4,back_to,shp_ush j hj]
theorem unl_last(b key:List Byte)(hb:b.length=16):unl (last b key) key=b:=by
 apply nth_ext (by rw [unl_length,hb])
 intro j hj
 rw [unl_length]at hj
 have hu:=ush_lt j hj
 rw [unl,unbL_nth _ _ hj,bothL_nth _ _ _ hu,last,nth_tab hu,lastB,BitVec.xor_assoc,BitVec.xor_self,BitVec.xor_zero,back_to,shp_ush j hj]
/-! ### Rounds, one after the other -/
theorem rnds_length(ks:List (List Byte)):∀b:List Byte,b.length=16→(rnds b ks).length=16:=by
 induction ks with
 |nil=>intro b h;exact h
 |cons k ks ih=>intro b _;exact ih _ (rnd_length b k)
theorem rnds_append(ks ls:List (List Byte)):∀b:List Byte,rnds b (ks++ls)=rnds (rnds b ks) ls:=by
 induction ks with
 |nil=>intro b;rfl
 |cons k ks ih=>intro b;exact ih _
theorem rnds_take(b:List Byte)(ks:List (List Byte))(k:Nat)(h:k<ks.length):rnds b (ks.take (k+1))=rnd (rnds b (ks.take k)) (ks.getD k []):=by
 rw [List.take_succ_eq_append_getElem h,rnds_append]
 simp [rnds,h]
open Go Go.RowKit Go.ChangeShapes Go.WideShapes Go.ChangeAt Go.Deep
set_option maxRecDepth 100000
def Trd {H:Type}(enc:TypeId×Value→H)(P:Program)(w:World)(T:TypeId)(cs:List Value):Prop:=∃fuel x,DataW.trod enc P w 0 (fun _=>true) true fuel T cs=some x
section
variable {H:Type} {enc:TypeId×Value→H} {P:Program} {w:World} {T e:TypeId} {cs:List Value}
theorem Trd.of {v:Value}{d:DataW H}{p:List MemPlace}(h:DataW.Trod enc P w 0 (fun _=>true) true T v d p):Trd enc P w T v.cells.toList:=by
 obtain⟨f,hf⟩:=h;exact⟨f,_,hf⟩
theorem Trd.cells {v:Value}{cs:List Value}(h:Trd enc P w T v.cells.toList)(he:v.cells.toList=cs):Trd enc P w T cs:=he ▸ h
theorem okWide_agg {r:Reach}{base:Nat}{v:Value}(hT:((P.underlying T).map fun d=>d.isRow)=some true)(h:Value.okWide P w r base T v):∃cs:List Value,v= .agg cs.toArray:=by
 obtain⟨d,hu,hd⟩:=Option.map_eq_some_iff.1 hT
 simp only [Value.okWide,hu]at h
 cases d<;>simp [TypeDesc.isRow]at hd
 all_goals
   obtain⟨cs,h1,_⟩:=h
   exact⟨cs.toList,by rw [h1]⟩
theorem Trd.int {k:IntKind}(ht:P.underlying T=some (.int k))(h:Trd enc P w T cs):∃n,cs=[.int k n]∧(Lit.int k n).wf=true:=by
 obtain⟨f,x,hf⟩:=h
 obtain⟨n,h1,_,h2⟩:=DataW.trod_int ht hf
 exact⟨n,h1,h2⟩
theorem Trd.u8(ht:P.underlying T=some (.int .u8))(h:Trd enc P w T cs):∃x:BitVec 8,cs=[v8 x]:=by
 obtain⟨n,rfl,hw⟩:=h.int ht;exact⟨_,by rw [int_v8 _ hw]⟩
theorem Trd.u16(ht:P.underlying T=some (.int .u16))(h:Trd enc P w T cs):∃x:BitVec 16,cs=[v16 x]:=by
 obtain⟨n,rfl,hw⟩:=h.int ht;exact⟨_,by rw [int_v16 _ hw]⟩
theorem Trd.u32(ht:P.underlying T=some (.int .u32))(h:Trd enc P w T cs):∃x:BitVec 32,cs=[v32 x]:=by
 obtain⟨n,rfl,hw⟩:=h.int ht;exact⟨_,by rw [int_v32 _ hw]⟩
theorem Trd.u64(ht:P.underlying T=some (.int .u64))(h:Trd enc P w T cs):∃x:BitVec 64,cs=[v64 x]:=by
 obtain⟨n,rfl,hw⟩:=h.int ht;exact⟨_,by rw [int_v64 _ hw]⟩
theorem Trd.i64(ht:P.underlying T=some (.int .i64))(h:Trd enc P w T cs):∃n:Int,cs=[.int .i64 n]∧-9223372036854775808≤n∧n≤9223372036854775807:=by
 obtain⟨n,rfl,hw⟩:=h.int ht;exact⟨n,rfl,int_i64 n hw⟩
theorem Trd.bool(ht:P.underlying T=some .bool)(h:Trd enc P w T cs):∃b:Bool,cs=[.bool b]:=by
 obtain⟨f,x,hf⟩:=h
 obtain⟨b,h1,_⟩:=DataW.trod_bool ht hf
 exact⟨b,h1⟩
theorem Trd.struct {fs:Array Field}{m:Nat}(ht:P.underlying T=some (.struct fs))(hm:P.cellsOf T=m)(h:Trd enc P w T cs):cs.length=m∧∀(i:Nat)(f:Field),fs[i]? =some f→Trd enc P w f.type ((cs.drop f.offset).take (P.cellsOf f.type)):=by
 obtain⟨f,x,hf⟩:=h
 obtain⟨xs,m',rfl,rfl,h1,h2,h3⟩:=DataW.trod_struct ht hf
 subst hm
 refine⟨h1,fun i f hi=> ?_⟩
 have hlt:i<xs.length:=by rw [h2];exact(Array.getElem?_eq_some_iff.1 hi).1
 exact⟨m',xs[i],by rw [h3 i f hi];exact List.getElem?_eq_getElem hlt⟩
theorem Trd.field {fs:Array Field}{i off n:Nat}{ft:TypeId}(h:∀(i:Nat)(f:Field),fs[i]? =some f→Trd enc P w f.type ((cs.drop f.offset).take (P.cellsOf f.type)))(hf:(fs[i]?).map (fun f=>(f.type,f.offset))=some (ft,off))(hn:P.cellsOf ft=n):Trd enc P w ft ((cs.drop off).take n):=by
 obtain⟨f,hf1,hf2⟩:=Option.map_eq_some_iff.1 hf
 simp only [Prod.mk.injEq]at hf2
 obtain⟨rfl,rfl⟩:=hf2
 subst hn
 exact h i f hf1
theorem glue(cs:List Value)(off n:Nat):cs.drop off=(cs.drop off).take n++cs.drop (off+n):=by
 rw [←List.drop_drop,List.take_append_drop]
theorem Trd.bytes(ht:P.underlying T=some (.slice e))(he:P.underlying e=some (.int .u8))(hc:P.cellsOf e=1)(h:Trd enc P w T cs):∃(p:Option Addr)(l:List Byte)(c:Nat),cs=[.slice p l.length c]∧RdB w p l∧l.length≤c∧l.length≤maxLen:=by
 obtain⟨f,x,hf⟩:=h
 rcases open_ints ht he hc hf with ⟨rfl,_⟩|⟨a,len,cap,zs,rfl,_,hl,hm,hz,_,hcell,hwz⟩
 · exact⟨none,[],0,rfl,RdB.nil _ _,Nat.le_refl _,by simp⟩
 · obtain⟨l,h1,h2,h3,h4⟩:=rdB_of (w:=w) (a:=some a) (len:=len) (cap:=cap) (zs:=zs) (.inr ⟨a,rfl,hl,hm,by simpa using hz,hcell,hwz⟩)
   exact⟨some a,l,cap,by rw [h1],h2,h3,h4⟩
def RdR(w:World)(p:Option Addr)(ls:List (List Byte)):Prop:=
 (0<ls.length→p.isSome=true)∧∀i,i<ls.length→∃(q:Option Addr)(c:Nat),w.cell? ((p.getD default).add i)=some (.slice q (ls.getD i []).length c)∧RdB w q (ls.getD i [])∧(ls.getD i []).length≤c∧(ls.getD i []).length≤maxLen
theorem RdR.ext {w w':World}{p:Option Addr}{ls:List (List Byte)}(h:RdR w p ls)(hx:Ext w w'):RdR w' p ls:=
 ⟨h.1,fun i hi=>by obtain⟨q,c,h1,h2,h3⟩:=h.2 i hi;exact⟨q,c,hx.cell h1,h2.ext hx,h3⟩⟩
theorem Trd.rows {q:TypeId}(ht:P.underlying T=some (.slice e))(he:P.underlying e=some (.slice q))(hq:P.underlying q=some (.int .u8))(hc:P.cellsOf e=1)(hcq:P.cellsOf q=1)(h:Trd enc P w T cs):
   ∃(p:Option Addr)(ls:List (List Byte))(c:Nat),cs=[.slice p ls.length c]∧RdR w p ls∧ls.length≤c∧ls.length≤maxLen:=by
 obtain⟨f,x,hf⟩:=h
 rcases open_slice1 ht hc hf with ⟨rfl,_⟩|⟨a,len,cap,m,n,V,D,Pl,rfl,_,hl,hm,hmm,_,hel⟩
 · exact⟨none,[],0,rfl,⟨by simp,by simp⟩,Nat.le_refl _,by simp⟩
 · simp only [if_true]at hmm
   have each:∀i,i<len→∃l:List Byte,∃(q':Option Addr)(c:Nat),V i= .slice q' l.length c∧RdB w q' l∧l.length≤c∧l.length≤maxLen:=fun i hi=>by
     obtain⟨p',l,c',h1,h2,h3,h4⟩:=Trd.bytes (cs:=[V i]) he hq hcq ⟨n,_,(hel i (by omega)).2⟩
     exact⟨l,p',c',by simpa using h1,h2,h3,h4⟩
   have : ∃ ls:List (List Byte),ls.length=len∧∀i,i<len→∃(q':Option Addr)(c:Nat),V i= .slice q' (ls.getD i []).length c∧RdB w q' (ls.getD i [])∧(ls.getD i []).length≤c∧(ls.getD i []).length≤maxLen:=by
     have key:∀k,k≤len→∃ls:List (List Byte),ls.length=k∧∀i,i<k→∃(q':Option Addr)(c:Nat),V i= .slice q' (ls.getD i []).length c∧RdB w q' (ls.getD i [])∧(ls.getD i []).length≤c∧(ls.getD i []).length≤maxLen:=by
       intro k
       induction k with
       |zero=>intro _;exact⟨[],rfl,by intros;omega⟩
       | succ k ih=>
         intro hk
         obtain⟨ls,h1,h2⟩:=ih (by omega)
         obtain⟨l,hl'⟩:=each k (by omega)
         refine⟨ls++[l],by simp [h1],fun i hi=> ?_⟩
         by_cases hik:i<k
         · have:(ls++[l]).getD i []=ls.getD i []:=by simp [List.getElem?_append_left (show i<ls.length by omega)]
           rw [this];exact h2 i hik
         · have:(ls++[l]).getD i []=l:=by
             have:i=ls.length:=by omega
             subst this;simp
           rw [this]
           have:i=k:=by omega
           subst this;exact hl'
     exact key len (Nat.le_refl _)
   obtain⟨ls,h1,h2⟩:=this
   subst h1
   refine⟨some a,ls,cap,rfl,⟨fun _=>rfl,fun i hi=> ?_⟩,hl,by omega⟩
   obtain⟨q',c,h3,h4⟩:=h2 i hi
   refine⟨q',c, ?_,h4⟩
   rw [←h3]
   exact(hel i (by omega)).1
def RdK(w:World)(p:Option Addr)(n:Nat)(ks:List (List Byte)):Prop:=(∀k∈ks,k.length=n)∧RdB w p ks.flatten
theorem RdK.ext {w w':World}{p:Option Addr}{n:Nat}{ks:List (List Byte)}(h:RdK w p n ks)(hx:Ext w w'):RdK w' p n ks:=⟨h.1,h.2.ext hx⟩
theorem flatten_length(n:Nat):∀(ks:List (List Byte)),(∀k∈ks,k.length=n)→ks.flatten.length=ks.length*n
 |[],_=>by simp
 | k::ks,h=>by
   simp only [List.flatten_cons,List.length_append,flatten_length n ks (fun x hx=>h x (by simp [hx])),h k (by simp),List.length_cons,Nat.succ_mul];omega
theorem flatten_getD(n:Nat):∀(ks:List (List Byte))(i j:Nat),(∀k∈ks,k.length=n)→i<ks.length→j<n→ks.flatten.getD (i*n+j) 0=(ks.getD i []).getD j 0
 |[],_,_,_,h,_=>by simp at h
 | k::ks,0,j,h,_,hj=>by
   have:=h k (by simp)
   simp [List.getElem?_append_left (show j<k.length by omega)]
 | k::ks,i+1,j,h,hi,hj=>by
   have hk:=h k (by simp)
   have:=flatten_getD n ks i j (fun x hx=>h x (by simp [hx])) (by simpa using hi) hj
   simp only [List.flatten_cons,List.getD_eq_getElem?_getD,List.getD_cons_succ]at this⊢
   rw [List.getElem?_append_right (by rw [hk,Nat.succ_mul];omega),hk,show(i+1)*n+j-n=i*n+j from by rw [Nat.succ_mul];omega]
   exact this
/-! ### An argument's value -/
section
variable {r:Reach} {b0:Nat} {v:Value} {d:DataW H} {ps:List MemPlace}
theorem val_agg(hT:((P.underlying T).map fun d=>d.isRow)=some true)(hval:Value.okWide P w r b0 T v)(h:DataW.Trod enc P w 0 (fun _=>true) true T v d ps):∃cs:List Value,v= .agg cs.toArray∧Trd enc P w T cs:=by
 obtain⟨cs,rfl⟩:=okWide_agg hT hval
 exact⟨cs,rfl,(Trd.of h).cells rfl⟩
end
end
open Go Go.RowKit
class Elem (P:Program) (e:TypeId) (sz by_:outParam Nat):Prop where
 out:∃i z,P.info? e=some i∧i.zero=some z∧i.size=sz∧i.bytes=by_∧z.cells.size=sz∧0<sz
theorem Elem.of {P:Program}{e:TypeId}{sz by_:Nat}(h:(P.info? e).map (fun i=>(i.zero.map fun z=>z.cells.size,i.size,i.bytes))=some (some sz,sz,by_))(h0:0<sz):Elem P e sz by_:=⟨by
 obtain⟨i,hi,h⟩:=Option.map_eq_some_iff.1 h
 simp only [Prod.mk.injEq]at h
 obtain⟨h1,h2,h3⟩:=h
 obtain⟨z,hz,h4⟩:=Option.map_eq_some_iff.1 h1
 exact⟨i,z,hi,hz,h2,h3,h4,h0⟩⟩
def OwnC(w:World)(B:Nat)(e:TypeId)(sz:Nat)(v:Value)(n:Nat)(cs:List Value):Prop:=w.ownsRow B e sz v n cs
section
variable {w w':World} {B n sz:Nat} {e:TypeId} {v:Value} {cs:List Value}
theorem OwnC.nil(w:World)(B:Nat)(e:TypeId)(sz:Nat):OwnC w B e sz (.slice none 0 0) 0 []:=World.ownsRow_nil w B _ _
theorem OwnC.alloc(h:OwnC w B e sz v n cs)(o:Obj):OwnC (w.alloc o) B e sz v n cs:=World.ownsRow.alloc h o
theorem OwnC.ext(h:OwnC w B e sz v n cs)(hx:Ext w w'):OwnC w' B e sz v n cs:=
 World.ownsRow.kept h (row:=none) ⟨hx.os,hx.tape,hx.output,hx.size,fun k hk _=>Below.block hx k hk⟩ (by cases hv:v.ownBlock<;>simp)
theorem OwnC.lt(h:OwnC w B e sz v n cs):∀k,v.ownBlock=some k→B≤k∧k<w.heap.size:=World.ownsRow.lt h
theorem OwnC.len(h:OwnC w B e sz v n cs):cs.length=n*sz:=h.1
theorem OwnC.slice(h:OwnC w B e sz v n cs):∃(p:Option Addr)(c:Nat),v= .slice p n c∧n≤c∧c≤maxLen∧(0<n→p.isSome=true)∧∀(j:Nat)(u:Value),cs[j]? =some u→w.cell? ((p.getD default).add j)=some u:=by
 obtain⟨h1,h2⟩:=h
 rcases h2 with ⟨rfl,h0⟩|⟨g,cap,cur,rfl,hg,hh,hn,hc,hs,ht⟩
 · subst h0
   have:cs=[]:=List.eq_nil_of_length_eq_zero (by simpa using h1)
   subst this
   exact⟨none,0,rfl,Nat.le_refl _,by simp [maxLen],by simp,by simp⟩
 · refine⟨some ⟨g,0,none⟩,cap,rfl,hn,hc,fun _=>rfl,fun j u hj=> ?_⟩
   have e':(⟨g,0,none⟩:Addr).add j=⟨g,j,none⟩:=by simp [Addr.add];omega
   show w.cell? ((⟨g,0,none⟩:Addr).add j)=_
   rw [e',cell_of_row w g j cur _ _ hh]
   rw [←ht,List.getElem?_take]at hj
   split at hj
   · rw [←Array.getElem?_toList];exact hj
   · cases hj
def catV(ks:List (List Byte)):List Value:=ks.flatten.map v8
theorem catV_append(ks ls:List (List Byte)):catV (ks++ls)=catV ks++catV ls:=by simp [catV]
theorem catV_length(n:Nat)(ks:List (List Byte))(h:∀k∈ks,k.length=n):(catV ks).length=ks.length*n:=by rw [catV,List.length_map,flatten_length n ks h]
theorem catV_one(ks:List (List Byte)):∀u∈catV ks,u.oneCell'=true:=one_map _
theorem RdK.cells {w:World}{p:Option Addr}{n:Nat}{ks:List (List Byte)}(h:RdK w p n ks):∀(j:Nat)(u:Value),(catV ks)[j]? =some u→∃a,p=some a∧w.cell? (a.add j)=some u:=by
 intro j u hj
 rw [catV,List.getElem?_map]at hj
 obtain⟨x,hx,rfl⟩:=Option.map_eq_some_iff.1 hj
 obtain⟨hlt,hx'⟩:=List.getElem?_eq_some_iff.1 hx
 obtain⟨a,rfl⟩:=Option.isSome_iff_exists.1 (h.2.1 (by omega))
 refine⟨a,rfl, ?_⟩
 have:=h.2.2 j hlt
 simp only [Option.getD_some]at this
 rw [this,List.getD_eq_getElem?_getD,hx];rfl
theorem OwnC.reads {m:Nat}{ks:List (List Byte)}(h:OwnC w B e m v ks.length (catV ks))(hk:∀k∈ks,k.length=m):∃p c,v= .slice p ks.length c∧ks.length≤c∧RdK w p m ks:=by
 obtain⟨p,c,rfl,h1,_,h3,h4⟩:=h.slice
 refine⟨p,c,rfl,h1,hk,fun hl=>h3 ?_,fun i hi=> ?_⟩
 · rcases Nat.eq_zero_or_pos ks.length with h0|h0
   · rw [List.eq_nil_of_length_eq_zero h0]at hl;simp at hl
   · exact h0
 · exact h4 i (v8 (ks.flatten.getD i 0)) (by rw [catV,List.getElem?_map,List.getElem?_eq_getElem hi,List.getD_eq_getElem?_getD,List.getElem?_eq_getElem hi];rfl)
end
theorem add_add(a:Addr)(i j:Nat):(a.add i).add j=a.add (i+j):=by unfold Addr.add;split<;>split<;>simp_all<;>omega
theorem RdB.sub {w:World}{p:Option Addr}{l:List Byte}(h:RdB w p l)(o n:Nat)(hn:o+n≤l.length)(h0:0<n):RdB w (some ((p.getD default).add o)) ((l.drop o).take n):=
 ⟨fun _=>rfl,fun i hi=>by
   simp only [List.length_take,List.length_drop]at hi
   simp only [Option.getD_some]
   rw [add_add,h.2 (o+i) (by omega)]
   simp [List.getElem?_take,List.getElem?_drop,show i<n by omega]⟩
theorem flatten_seg(n:Nat):∀(ks:List (List Byte))(i:Nat),(∀k∈ks,k.length=n)→i<ks.length→(ks.flatten.drop (i*n)).take n=ks.getD i []
 |[],_,_,h=>by simp at h
 | k::ks,0,h,_=>by
   have:=h k (by simp)
   simp [List.take_append_of_le_length (Nat.le_of_eq this.symm),List.take_of_length_le (Nat.le_of_eq this)]
 | k::ks,i+1,h,hi=>by
   have hk:=h k (by simp)
   have:=flatten_seg n ks i (fun x hx=>h x (by simp [hx])) (by simpa using hi)
   rw [List.flatten_cons,show(i+1)*n=k.length+i*n from by rw [hk,Nat.succ_mul];omega,List.drop_append,List.drop_eq_nil_of_le (by omega),List.nil_append,show k.length+i*n-k.length=i*n from by omega,this]
   simp
theorem RdK.at {w:World}{p:Option Addr}{n:Nat}{ks:List (List Byte)}(h:RdK w p n ks)(hn:0<n)(i:Nat)(hi:i<ks.length):RdB w (some ((p.getD default).add (i*n))) (ks.getD i [])∧(ks.getD i []).length=n:=by
 have hl:=flatten_length n ks h.1
 have hle:(i+1)*n≤ks.length*n:=Nat.mul_le_mul_right n hi
 rw [Nat.succ_mul]at hle
 have:=h.2.sub (i*n) n (by rw [hl];omega) hn
 rw [flatten_seg n ks i h.1 hi]at this
 refine⟨this,h.1 _ ?_⟩
 rw [List.getD_eq_getElem?_getD,List.getElem?_eq_getElem hi]
 exact List.getElem_mem hi
theorem RdK.addr {w:World}{p:Option Addr}{n:Nat}{ks:List (List Byte)}(h:RdK w p n ks)(hn:0<n)(hk:0<ks.length):∃a,p=some a:=by
 have hl:=flatten_length n ks h.1
 exact Option.isSome_iff_exists.1 (h.2.1 (by rw [hl];exact Nat.mul_pos hk hn))
theorem Swap.split {L L':List Blk}{b b':Blk}(c:Blk)(h:Swap L b b' L'):∃M,Swap L b c M∧Swap M c b' L':=by
 induction h with
 |hd=>exact⟨_, .hd, .hd⟩
 |tl _ ih=>obtain⟨M,h1,h2⟩:=ih;exact⟨_, .tl h1, .tl h2⟩
theorem Own.turnC {w0 w:World}{L L':List Blk}{g k:Nat}{t:TypeId}{cs:List Value}{v:Value}(h:Own w0 w L)(hs:Swap L ⟨g,t,cs⟩ ⟨g,t,cs.set k v⟩ L'):Own w0 (w.setCell ⟨g,k,none⟩ v) L':=by
 have hr:Row w g t cs:=h.row hs.has
 have hb:w0.heap.size≤g:=h.base hs.has
 refine⟨ext_setCell h.1 _ _ hb,by rw [hs.keys rfl];exact h.2.1,fun c hc=> ?_⟩
 rcases hs.cases rfl h.2.1 hc with rfl|⟨h1,h2⟩
 · exact⟨hb,row_set hr k v⟩
 · exact⟨(h.2.2 c h1).1,row_other (h.2.2 c h1).2 _ _ h2⟩
theorem Own.turn8 {w0 w:World}{L L':List Blk}{g k:Nat}{t:TypeId}{l:List Byte}{b:Byte}(h:Own w0 w L)(hs:Swap L ⟨g,t,l.map v8⟩ ⟨g,t,(setN l k b).map v8⟩ L'):Own w0 (w.setCell ⟨g,k,none⟩ (v8 b)) L':=by
 rw [←mapv_set]at hs;exact h.turnC hs
theorem Own.perm {w0 w:World}{L M:List Blk}(h:Own w0 w L)(p:L.Perm M):Own w0 w M:=
 ⟨h.1,(p.map Blk.g).nodup_iff.1 h.2.1,fun b hb=>h.2.2 b (p.mem_iff.2 hb)⟩
theorem Has.perm {L:List Blk}{b:Blk}(h:Has L b):∃R,L.Perm (b::R):=by
 induction h with
 |hd=>exact⟨_,List.Perm.refl _⟩
 | @tl b c L _ ih=>obtain⟨R,p⟩:=ih;exact⟨c::R,(p.cons c).trans (List.Perm.swap b c R)⟩
theorem Swap.front {L L':List Blk}{b b':Blk}(h:Swap L b b' L'):∃R,L.Perm (b::R)∧L'.Perm (b'::R):=by
 induction h with
 |hd=>exact⟨_,List.Perm.refl _,List.Perm.refl _⟩
 | @tl b b' c L L' _ ih=>obtain⟨R,p,q⟩:=ih;exact⟨c::R,(p.cons c).trans (List.Perm.swap b c R),(q.cons c).trans (List.Perm.swap b' c R)⟩
theorem Own.dropN {w0 w:World}{M L:List Blk}(h:Own w0 w (M++L)):Own w0 w L:=
 ⟨h.1,by have:=h.2.1;rw [List.map_append]at this;exact(List.nodup_append.1 this).2.1,fun b hb=>h.2.2 b (by simp [hb])⟩
theorem Has.app {M L:List Blk}{b:Blk}(h:Has L b):Has (M++L) b:=by
 induction M with
 |nil=>exact h
 |cons c M ih=>exact .tl ih
theorem Swap.app {M L L':List Blk}{b b':Blk}(h:Swap L b b' L'):Swap (M++L) b b' (M++L'):=by
 induction M with
 |nil=>exact h
 |cons c M ih=>exact .tl ih
theorem Has.front {M L:List Blk}{b:Blk}(h:Has M b):Has (M++L) b:=by
 induction h with
 |hd=>exact .hd
 |tl _ ih=>exact .tl ih
def ovr:List Value→Nat→List Value→List Value
 |cs,_,[]=>cs
 |cs,o,v::vs=>ovr (cs.set o v) (o+1) vs
theorem ovr_length(vs:List Value):∀(cs:List Value)(o:Nat),(ovr cs o vs).length=cs.length:=by
 induction vs with
 |nil=>intro cs o;rfl
 |cons v vs ih=>intro cs o;rw [ovr,ih];simp
theorem ovr_at(vs:List Value):∀(cs:List Value)(o j:Nat),o+vs.length≤cs.length→(ovr cs o vs)[j]? =if o≤j∧j<o+vs.length then vs[j-o]? else cs[j]? :=by
 induction vs with
 |nil=>intro cs o j _;rw [ovr,if_neg (by simp)]
 | cons v vs ih=>
   intro cs o j hl
   simp only [List.length_cons]at hl
   rw [ovr,ih _ _ _ (by simp;omega)]
   by_cases h1:j=o
   · subst h1
     rw [if_neg (by omega),if_pos (by simp),List.getElem?_set]
     simp;omega
   · by_cases h2:o+1≤j∧j<o+1+vs.length
     · rw [if_pos h2,if_pos (by simp;omega),show j-o=(j-(o+1))+1 from by omega,List.getElem?_cons_succ]
     · rw [if_neg h2,if_neg (by simp;omega),List.getElem?_set_ne (by omega)]
theorem Own.setCells {w0:World}{g:Nat}{t:TypeId}(vs:List Value):∀{w:World} {L L':List Blk} {cs:List Value} {o:Nat},Own w0 w L→Swap L ⟨g,t,cs⟩ ⟨g,t,ovr cs o vs⟩ L'→Own w0 (w.setCells g o vs) L':=by
 induction vs with
 | nil=>
   intro w L L' cs o h hs
   have:=h.turn hs
   have hr:Row w g t cs:=h.row hs.has
   rw [show ovr cs o []=cs from rfl,setRow_self w g _ t (0,0) hr]at this
   exact this
 | cons v vs ih=>
   intro w L L' cs o h hs
   obtain⟨M,h1,h2⟩:=hs.split ⟨g,t,cs.set o v⟩
   exact ih (h.turnC h1) h2
def SlO(M:List Blk)(e:TypeId)(sz:Nat)(v:Value)(n:Nat)(cs:List Value):Prop:=
 cs.length=n*sz∧((v= .slice none 0 0∧n=0∧M=[])∨∃g o cap cur,v= .slice (some ⟨g,o,none⟩) n cap∧M=[⟨g,e,cur⟩]∧n≤cap∧cap≤maxLen∧o+cap*sz≤cur.length∧(cur.drop o).take (n*sz)=cs)
section
variable {w0 w:World} {M R:List Blk} {e:TypeId} {sz n:Nat} {v:Value} {cs:List Value}
theorem SlO.nil(e:TypeId)(sz:Nat):SlO [] e sz (.slice none 0 0) 0 []:=⟨by simp, .inl ⟨rfl,rfl,rfl⟩⟩
theorem SlO.whole(g:Nat)(e:TypeId)(sz n:Nat)(cs:List Value)(hl:cs.length=n*sz)(hn:n≤maxLen):SlO [⟨g,e,cs⟩] e sz (.slice (some ⟨g,0,none⟩) n n) n cs:=
 ⟨hl, .inr ⟨g,0,n,cs,rfl,rfl,Nat.le_refl _,hn,by omega,by rw [dZe,List.take_of_length_le (by omega)]⟩⟩
theorem SlO.room(g:Nat)(e:TypeId)(sz cap:Nat)(cur:List Value)(hl:cur.length=cap*sz)(hn:cap≤maxLen):SlO [⟨g,e,cur⟩] e sz (.slice (some ⟨g,0,none⟩) 0 cap) 0 []:=
 ⟨by simp, .inr ⟨g,0,cap,cur,rfl,rfl,by omega,hn,by omega,by simp⟩⟩
theorem SlO.form(h:SlO M e sz v n cs):∃p c,v= .slice p n c:=by
 rcases h.2 with ⟨h1,rfl,_⟩|⟨g,o,cap,cur,h1,_⟩<;>exact⟨_,_,h1⟩
theorem SlO.cells(h:SlO M e sz v n cs)(hm:Own w0 w (M++R)):∃(p:Option Addr)(c:Nat),v= .slice p n c∧n≤c∧c≤maxLen∧(0<n→p.isSome=true)∧∀(j:Nat)(u:Value),cs[j]? =some u→∃a,p=some a∧w.cell? (a.add j)=some u:=by
 obtain⟨hl,h⟩:=h
 rcases h with ⟨rfl,rfl,rfl⟩|⟨g,o,cap,cur,rfl,rfl,h1,h2,h3,h4⟩
 · have:cs=[]:=List.eq_nil_of_length_eq_zero (by simpa using hl)
   subst this
   exact⟨none,0,rfl,Nat.le_refl _,by simp,by simp,by simp⟩
 · refine⟨_,cap,rfl,h1,h2,fun _=>rfl,fun j u hj=>⟨_,rfl, ?_⟩⟩
   have hr:Row w g e cur:=hm.row (.hd)
   show w.cell? ((⟨g,o,none⟩:Addr).add j)=_
   rw [Addr.add_mid,row_cell hr]
   rw [←h4,List.getElem?_take]at hj
   split at hj
   · rwa [List.getElem?_drop]at hj
   · cases hj
end
theorem ownsRow_sl {w0 w w':World}{R:List Blk}{e:TypeId}{sz n:Nat}{v:Value}{cs:List Value}(hm:Own w0 w R)(hx:Ext w w')(h:w'.ownsRow w.heap.size e sz v n cs):∃M,Own w0 w' (M++R)∧SlO M e sz v n cs:=by
 obtain⟨h1,h2⟩:=h
 rcases h2 with ⟨rfl,h0⟩|⟨g,cap,cur,rfl,hg,hh,hn,hc,hs,ht⟩
 · exact⟨[],hm.ext hx,h1, .inl ⟨rfl,h0,rfl⟩⟩
 · have hr:Row w' g e cur.toList:=hh
   refine⟨[⟨g,e,cur.toList⟩],hm.push hx hg hr,h1, .inr ⟨g,0,cap,cur.toList,rfl,rfl,hn,hc,by simp;omega,by rw [dZe,ht]⟩⟩
theorem run_append_none {P:Program}{w:World}{t ty e:TypeId}{i:TypeInfo}(ht:P.underlying t=some (.slice e))(hi:P.info? e=some i)(q:Option Addr)(n cap c:Nat)(hnc:n≤cap):(Builtin.append_ #[t,t] ty #[.slice q n cap, .slice none 0 c]).run P w= .ok (.slice q n cap) w:=by
 cases q<;>simp [Builtin.append_,run_underlying ht,sizeOf,typeInfo,hi,Builtin.lenOf,Builtin.firstCells,hnc,storeCells]
theorem wplO_app {P:Program}{ops:Array Oper}{Q:Exit→Act→World→Prop}{rest:List Oper}{o:Oper}{a:Act}{w0 w:World}{M R:List Blk}{s x:Operand}{p:Option Addr}{c n m sz by_:Nat}{T e:TypeId}{v:Value}{cs ds:List Value}
   (hm:Own w0 w (M++R)) (hsl:SlO M e sz v n cs) (hgd:o.guard=none) (ho:o.op= .call {callee:= .builtin .append,args:= #[s,x],argTypes:= #[T,T]}) (hs:a.eval s=v) (hx:a.eval x= .slice p m c) (hT:P.underlying T=some (.slice e)) [hE:Elem P e sz by_]
   (hl:ds.length=m*sz) (hr:∀(j:Nat)(u:Value),ds[j]? =some u→∃a,p=some a∧w.cell? (a.add j)=some u) (h1:∀u∈ds,u.oneCell'=true) (hlen:(n+m)*(by_+1)≤140737488355328)
   (h:∀v' w' M',Own w0 w' (M'++R)→SlO M' e sz v' (n+m) (cs++ds)→wpList P ops Q rest (a.put o.dst v') w'):wpList P ops Q (o::rest) a w:=by
 obtain⟨i,z,hi,hz,hsz,hb,hzz,h0⟩:=hE.out
 have hlen1:n+m≤maxLen:=by
   have:n+m≤(n+m)*(by_+1):=Nat.le_mul_of_pos_right _ (by omega)
   unfold maxLen;omega
 have hlen2:(n+m)*by_≤140737488355328:=Nat.le_trans (Nat.mul_le_mul_left _ (by omega)) hlen
 cases p with
 | none=>
   have hd:ds=[]:=by
     cases ds with
     |nil=>rfl
     |cons u ds=>obtain⟨_,ha,_⟩:=hr 0 u rfl;cases ha
   subst hd
   have hm0:m=0:=by
     rcases Nat.eq_zero_or_pos m with h|h
     · exact h
     · have:=Nat.mul_pos h h0;rw [←hl]at this;simp at this
   subst hm0
   obtain⟨q,k,rfl,hnk,_⟩:=hsl.cells hm
   refine wpList_plain hgd fun K hK=> ?_
   unfold Oper.wp
   simp [execOp,ho,resolve,invoke,builtin,hs,hx,run_append_none hT hi _ _ _ _ hnk,Result.andThen]
   exact hK _ _ (h _ w M hm (by simpa using hsl))
 | some ad =>
   have hr':∀(j:Nat)(u:Value),ds[j]? =some u→w.cell? (ad.add j)=some u:=fun j u hj=>by
     obtain⟨a',ha,hc⟩:=hr j u hj
     cases ha;exact hc
   obtain⟨hcl,hsl'⟩:=id hsl
   rcases hsl' with ⟨rfl,rfl,rfl⟩|⟨g,off,cap,cur,rfl,rfl,k1,k2,k3,k4⟩
   · have hcs:cs=[]:=List.eq_nil_of_length_eq_zero (by simpa using hcl)
     subst hcs
     refine wpList_append_own w hgd s x T ho w.heap.size e i z sz by_ hT hi hz hsz hb hzz h0 _ 0 [] hs (World.ownsRow_nil w _ e sz) ad m c ds hx hl hr' h1 hlen1 hlen2 (Nat.le_refl _) ?_
     intro v' w' r1 r2 _
     have hx:Ext w w':=(Below.refl w.heap.size w).grown r2 (Nat.le_refl _) fun k hk=>by cases hk
     obtain⟨M',m1,m2⟩:=ownsRow_sl hm hx r1
     exact h v' w' M' m1 m2
   · have hrow:Row w g e cur:=hm.row (.hd)
     have hcells:∀(j:Nat)(u:Value),cs[j]? =some u→w.cell? ((⟨g,off,none⟩:Addr).add j)=some u:=fun j u hj=>by
       rw [Addr.add_mid,row_cell hrow]
       rw [←k4,List.getElem?_take]at hj
       split at hj
       · rwa [List.getElem?_drop]at hj
       · cases hj
     by_cases hfit:n+m≤cap
     · have hin:off+n*sz+ds.length≤cur.length:=by
         have:(n+m)*sz≤cap*sz:=Nat.mul_le_mul_right _ hfit
         rw [Nat.add_mul]at this;omega
       have hrun:=run_append_room_cells (P:=P) w T o.type e i hT hi g off n cap ad m c ds (by rw [hsz];exact hl) hr' h1 hfit
         (fun j hj=>by rw [row_cell hrow,hsz,List.getElem?_eq_getElem (by omega)];rfl) (fun j hj=>row_free hrow _)
       rw [hsz]at hrun
       have hm2:Own w0 (w.setCells g (off+n*sz) ds) (⟨g,e,ovr cur (off+n*sz) ds⟩::R):=Own.setCells ds hm .hd
       refine wpList_plain hgd fun K hK=> ?_
       unfold Oper.wp
       simp [execOp,ho,resolve,invoke,builtin,hs,hx,hrun,Result.andThen]
       refine hK _ _ (h _ _ [⟨g,e,ovr cur (off+n*sz) ds⟩] hm2 ⟨by rw [List.length_append,hcl,hl,Nat.add_mul], .inr ⟨g,off,cap,_,rfl,rfl,hfit,k2,by rw [ovr_length];exact k3, ?_⟩⟩)
       apply List.ext_getElem?
       intro j
       rw [List.getElem?_take,Nat.add_mul,←hl]
       by_cases hj:j<n*sz
       · rw [if_pos (by omega),List.getElem?_drop,ovr_at _ _ _ _ hin,if_neg (by omega),List.getElem?_append_left (by omega),←k4,List.getElem?_take,if_pos hj,List.getElem?_drop]
       · by_cases hj2:j<n*sz+ds.length
         · rw [if_pos hj2,List.getElem?_drop,ovr_at _ _ _ _ hin,if_pos (by omega),List.getElem?_append_right (by omega),hcl]
           congr 1;omega
         · rw [if_neg hj2,List.getElem?_eq_none (by rw [List.length_append];omega)]
     · refine wpList_append_grows w hgd s x T ho e i z sz by_ hT hi hz hsz hb hzz h0 (some ⟨g,off,none⟩) n cap cs hs (by simp) hcl (fun b hb=>by cases hb;exact hcells) ad m c ds hx hl hr' h1 (by omega) hlen1 hlen2 ?_
       intro v' w' r1 r2
       have hx:Ext w w':=(Below.refl w.heap.size w).grown r2 (Nat.le_refl _) fun k hk=>by cases hk
       obtain⟨M',m1,m2⟩:=ownsRow_sl (hm.drop) hx r1
       exact h v' w' M' m1 m2
theorem SlO.behind {M:List Blk}{e:TypeId}{sz n k:Nat}{g o cap:Nat}{cs:List Value}(h:SlO M e sz (.slice (some ⟨g,o,none⟩) n cap) n cs)(hk:k≤n):SlO M e sz (.slice (some ⟨g,o+k*sz,none⟩) (n-k) (cap-k)) (n-k) (cs.drop (k*sz)):=by
 obtain⟨hl,h⟩:=h
 rcases h with ⟨h,_⟩|⟨g',o',cap',cur,he,rfl,k1,k2,k3,k4⟩
 · cases h
 · cases he
   have hks:k*sz≤n*sz:=Nat.mul_le_mul_right _ hk
   have hkc:k*sz≤cap*sz:=Nat.mul_le_mul_right _ (by omega)
   refine⟨by rw [List.length_drop,hl,Nat.sub_mul], .inr ⟨g,_,_,cur,rfl,rfl,by omega,by omega,by rw [Nat.sub_mul];omega, ?_⟩⟩
   rw [←k4,List.drop_take,List.drop_drop,Nat.sub_mul]
def fillTo(r:List Byte)(k:Nat):List Byte:=r.take k++List.replicate (r.length-k) 0
theorem fillTo_length(r:List Byte)(k:Nat)(h:k≤r.length):(fillTo r k).length=r.length:=by simp [fillTo];omega
theorem fillTo_zero(r:List Byte):fillTo r 0=zeros r.length:=by simp [fillTo,zeros]
theorem fillTo_all(r:List Byte):fillTo r r.length=r:=by simp [fillTo]
theorem fillTo_set(r:List Byte)(k:Nat)(h:k<r.length):(fillTo r k).set k (r.getD k 0)=fillTo r (k+1):=by
 apply List.ext_getElem
 · rw [List.length_set,fillTo_length _ _ (by omega),fillTo_length _ _ (by omega)]
 · intro i h1 h2
   rw [List.getElem_set]
   rw [List.length_set,fillTo_length _ _ (by omega)]at h1
   by_cases e:k=i
   · subst e
     rw [if_pos rfl]
     simp only [fillTo]
     rw [List.getElem_append_left (by simp;omega)]
     simp [h]
   · rw [if_neg e]
     simp only [fillTo]
     by_cases hik:i<k
     · rw [List.getElem_append_left (by simp;omega),List.getElem_append_left (by simp;omega)]
       simp
     · rw [List.getElem_append_right (by simp;omega),List.getElem_append_right (by simp;omega)]
       simp
def xorL(a b:List Byte):List Byte:=List.zipWith (fun x y=>x^^^y) a b
theorem xorL_length(a b:List Byte):(xorL a b).length=min a.length b.length:=by simp [xorL]
theorem xorL_getD(a b:List Byte)(k:Nat)(h:k<(xorL a b).length):(xorL a b).getD k 0=a.getD k 0^^^b.getD k 0:=by
 rw [xorL_length]at h
 have h1:k<a.length:=by omega
 have h2:k<b.length:=by omega
 simp [xorL,List.getElem?_zipWith,h1,h2]
theorem xor_any(a b:List Byte)(p q:Option Addr)(c d:Nat)(w:World)(ha:RdB w p a)(hb:RdB w q b)(hla:a.length≤140737488355328)(hlb:b.length≤140737488355328):
   GivesR Tryz.prog 81 #[.slice p a.length c, .slice q b.length d] w (BytesS (xorL a b)):=by
 unfold GivesR
 have hn:=xorL_length a b
 generalize hN:(xorL a b).length=n at*
 have hx:Ext w (w.alloc (.cells ((zeros n).map v8).toArray 5)):=(Ext.refl w).alloc _
 have hrow:=row_new w 5 ((zeros n).map v8)
 have HN:=hid hN
 have Hn:=hid hn
 have hn1:n≤a.length:=by omega
 have hn2:n≤b.length:=by omega
 clear hN hn
 rcases Nat.lt_or_ge b.length a.length with hab|hab
 all_goals
   go_enter Tryz.func81,Tryz.ntmps81
   go_wp2_with (with_reducible show wpList _ _ _ _ _ _;refine make_b n rfl rfl rfl rfl (by have:=Hn.out;omega) (by have:=Hn.out;omega) (by omega) ?_)
   go_loopw [6,15] (fun _ i wr=>∃k:Nat,k≤n∧i= .int .i64 k∧Row wr w.heap.size 5 ((fillTo (xorL a b) k).map v8)∧Ext w wr) (fun _ i _=>n-(intOf i).toNat)
   case atStart=>exact⟨0,Nat.zero_le _,rfl,by rw [fillTo_zero,HN.out];exact hrow,hx⟩
   case round =>
     obtain⟨k,hk,rfl,hr,hxr⟩:=hrel
     by_cases hlt:k<n
     · have hka:k<a.length:=by omega
       have hkb:k<b.length:=by omega
       have hpa:=(ha.ext hxr).isSome k (by omega)
       have hpb:=(hb.ext hxr).isSome k (by omega)
       have hca:=fun wx (hwx:Ext wr wx)=>((ha.ext hxr).ext hwx).at k (by omega)
       have hcb:=fun wx (hwx:Ext wr wx)=>((hb.ext hxr).ext hwx).at k (by omega)
       have hset:=fillTo_set (xorL a b) k (by rw [HN.out];exact hlt)
       have e:a.getD k 0^^^b.getD k 0=a[k]^^^b[k]:=by simp [hka,hkb]
       rw [xorL_getD a b k (by rw [HN.out];exact hlt),e]at hset
       have Hset:=hid hset
       clear hset e
       go_wp2
       refine region_at 12 (fun w'=>Ext wr w') 32 (by kernel_rfl) (by kernel_rfl) rfl (fun _ _ h k=>h.trans k) (drew_ext _) ?_
       simp only [zTa]
       repeat (first
           | (apply walk_is rfl rfl rfl
              · (intro wx hwx;go_simp;(try go_bits);first|exact gives_same|exact gives_skip)
              · (simp only [zPu];rfl))
           | (apply walk_not rfl rfl rfl
              · (simp only [zPu];rfl)))
       intro wz hwz
       simp only [zZi]
       repeat (first|rw [fin_is]|(rw [fin_cons];intro _ _))
       rw [fin_nil]
       try (replace hm:=hm.ext hwz)
       simp only [zPu]
       have hr':=row_ext hr hwz
       have hc:=row_v8 hr' k (by rw [fillTo_length _ _ (by rw [HN.out];omega),HN.out];exact hlt)
       have hf:=row_free hr' k
       have hrs:=row_set hr' k (v8 (a[k]^^^b[k]))
       rw [←List.map_set,Hset.out]at hrs
       have hxz:=ext_setCell (hxr.trans hwz) ⟨w.heap.size,k,none⟩ (v8 (a[k]^^^b[k])) (Nat.le_refl _)
       go_wp2
       go_roundw
       case rel=>exact⟨k+1,by omega,by go_num,hrs,hxz⟩
       case measure=>simp [intOf]<;>omega
     · obtain rfl:k=n:=by omega
       go_wp2
       go_ret
       have hr':Row wr w.heap.size 5 ((xorL a b).map v8):=by rw [←HN.out,fillTo_all]at hr;exact hr
       exact⟨_,rfl,⟨_,_,by rw [HN.out];rfl,by rw [HN.out];exact Nat.le_refl _,RdB.of_row hr'⟩,hxr⟩
def orL(a b:List Byte):Nat→Byte
 |0=>0#8
 |k+1=>orL a b k|||(a.getD k 0^^^b.getD k 0)
theorem orL_zero(a b:List Byte):∀k,orL a b k=0#8↔∀i,i<k→a.getD i 0=b.getD i 0
 |0=>by simp [orL]
 | k + 1 =>by
   have h0:∀x y:Byte,x|||y=0#8↔x=0#8∧y=0#8:=by
     intro x y
     constructor
     · intro h
       constructor
       · apply BitVec.eq_of_getLsbD_eq;intro i hi
         have:=congrArg (fun z=>z.getLsbD i) h
         simp at this;simp [this.1]
       · apply BitVec.eq_of_getLsbD_eq;intro i hi
         have:=congrArg (fun z=>z.getLsbD i) h
         simp at this;simp [this.2]
     · rintro ⟨rfl,rfl⟩;simp
   rw [orL,h0,orL_zero a b k,BitVec.xor_eq_zero_iff]
   constructor
   · rintro ⟨h1,h2⟩ i hi
     by_cases e:i=k
     · subst e;exact h2
     · exact h1 i (by omega)
   · intro h;exact⟨fun i hi=>h i (by omega),h k (by omega)⟩
theorem orL_same(a b:List Byte)(h:a.length=b.length):(orL a b a.length==0#8)=(a==b):=by
 rw [Bool.eq_iff_iff,beq_iff_eq,beq_iff_eq,orL_zero]
 constructor
 · intro hh
   apply List.ext_getElem h
   intro i h1 h2
   have:=hh i h1
   simpa [h1,h2]using this
 · rintro rfl _ _;rfl
theorem same_any(a b:List Byte)(p q:Option Addr)(c d:Nat)(w:World)(ha:RdB w p a)(hb:RdB w q b)(_hla:a.length≤140737488355328)(hlb:b.length≤140737488355328):
   Gives Tryz.prog 44 #[.slice p a.length c, .slice q b.length d] w (.bool (a==b)):=by
 unfold Gives
 by_cases hab:a.length=b.length
 · have hne : ((a.length:Int) !=b.length)=false:=by rw [hab];simp
   have hs:=orL_same a b hab
   have Hs:=hid hs
   have Hab:=hid hab
   have hab':a.length≤b.length:=by omega
   clear hab hs
   go_enter Tryz.func44,Tryz.ntmps44
   go_wp2
   go_loopw [5,6,14] (fun acc _ i wr=>∃k:Nat,k≤a.length∧i= .int .i64 k∧acc=v8 (orL a b k)∧Ext w wr) (fun _ _ i _=>a.length-(intOf i).toNat)
   case atStart=>exact⟨0,Nat.zero_le _,rfl,rfl,Ext.refl w⟩
   case round =>
     obtain⟨k,hk,rfl,rfl,hxr⟩:=hrel
     by_cases hlt:k<a.length
     · have hkb:k<b.length:=by omega
       have hpa:=(ha.ext hxr).isSome k (by omega)
       have hpb:=(hb.ext hxr).isSome k (by omega)
       have hca:=fun wx (hwx:Ext wr wx)=>((ha.ext hxr).ext hwx).at k (by omega)
       have hcb:=fun wx (hwx:Ext wr wx)=>((hb.ext hxr).ext hwx).at k (by omega)
       have e:orL a b (k+1)=orL a b k|||(a[k]^^^b[k]):=by rw [orL];simp [hlt,hkb]
       have He:=hid e
       clear e
       go_wp2
       refine region_at 12 (fun w'=>Ext wr w') 31 (by kernel_rfl) (by kernel_rfl) rfl (fun _ _ h k=>h.trans k) (drew_ext _) ?_
       simp only [zTa]
       repeat (first
           | (apply walk_is rfl rfl rfl
              · (intro wx hwx;go_simp;(try go_bits);first|exact gives_same|exact gives_skip)
              · (simp only [zPu];rfl))
           | (apply walk_not rfl rfl rfl
              · (simp only [zPu];rfl)))
       intro wz hwz
       simp only [zZi]
       repeat (first|rw [fin_is]|(rw [fin_cons];intro _ _))
       rw [fin_nil]
       try (replace hm:=hm.ext hwz)
       simp only [zPu]
       go_wp2
       go_roundw
       case rel=>exact⟨k+1,by omega,by go_num,by rw [He.out],hxr.trans hwz⟩
       case measure=>simp [intOf]<;>omega
     · obtain rfl:k=a.length:=by omega
       go_wp2
       go_ret
       exact⟨by rw [←Hs.out];rfl,hxr⟩
 · have hne:((a.length:Int) !=b.length)=true:=by rw [bne_iff_ne];omega
   have hf:(a==b)=false:=by rw [beq_eq_false_iff_ne];rintro rfl;exact hab rfl
   rw [hf]
   clear ha hb hab hf
   go_enter Tryz.func44,Tryz.ntmps44
   go_wp2
   go_ret
   exact⟨rfl,Ext.refl w⟩
def putL(n:BitVec 64)(m:Nat):List Byte:=(List.range m).map fun k=>(n>>>(8*k)).setWidth 8
theorem putL_length(n:BitVec 64)(m:Nat):(putL n m).length=m:=by simp [putL]
theorem putL_getD(n:BitVec 64)(m k:Nat)(h:k<m):(putL n m).getD k 0=(n>>>(8*k)).setWidth 8:=by simp [putL,h]
theorem fillTo_zero'(r:List Byte)(n:Nat)(h:r.length=n):(fillTo r 0).map v8=(List.replicate n (0:Byte)).map v8:=by
 rw [fillTo_zero,h];rfl
@[local go_sem] theorem conv_32_8 (x : BitVec 32) (w : World) : (convert 70 5 (v32 x)).run Tryz.prog w = .ok (v8 (x.setWidth 8)) w := conv32_8 x _ _ _ w rfl rfl
theorem zeros4:(#[Value.int IntKind.u8 0,Value.int IntKind.u8 0,Value.int IntKind.u8 0,Value.int IntKind.u8 0]:Array Value)=((List.replicate 4 (0:Byte)).map v8).toArray:=rfl
theorem put32_byte(n:BitVec 32)(k:Nat):((n.setWidth 64)>>>(8*k)).setWidth 8=(n>>>(8*k)).setWidth 8:=by
 apply BitVec.eq_of_getLsbD_eq;intro i hi
 simp [hi]
 intro h;exact Classical.byContradiction fun h2=>by
   have:=BitVec.getLsbD_of_ge n (8*k+i) (by omega)
   rw [this]at h;cases h
theorem putword_any(n:BitVec 32)(w:World):
   Gives Tryz.prog 83 #[v32 n] w (A8 (putL (n.setWidth 64) 4)):=by
 unfold Gives
 have hl:=putL_length (n.setWidth 64) 4
 have hb:∀k,k<4→(fillTo (putL (n.setWidth 64) 4) k).set k ((n>>>(8*k)).setWidth 8)=fillTo (putL (n.setWidth 64) 4) (k+1):=by
   intro k hk
   rw [←put32_byte,←putL_getD (n.setWidth 64) 4 k hk]
   exact fillTo_set _ k (by rw [hl];exact hk)
 have h0:=fillTo_zero' (putL (n.setWidth 64) 4) 4 hl
 have h1:fillTo (putL (n.setWidth 64) 4) 4=putL (n.setWidth 64) 4:=by have:=fillTo_all (putL (n.setWidth 64) 4);rwa [hl]at this
 have hlen:∀k,k≤4→(fillTo (putL (n.setWidth 64) 4) k).length=4:=fun k hk=>by rw [fillTo_length _ _ (by rw [hl];exact hk),hl]
 generalize putL (n.setWidth 64) 4=r at*
 have H0:=hid h0
 have H1:=hid h1
 have HB:=hid hb
 have HL:=hid hlen
 have Hl:=hid hl
 clear h0 h1 hb hlen hl
 go_enter Tryz.func83,Tryz.ntmps83
 go_wp2
 rw [zeros4]
 go_loopw [4,5] (fun _ i wr=>∃k:Nat,k≤4∧i= .int .i64 k∧Row wr (w.heap.size+1) 109 ((fillTo r k).map v8)∧Row wr w.heap.size 109 ((List.replicate 4 (0:Byte)).map v8)∧Ext w wr) (fun _ i _=>4-(intOf i).toNat)
 case atStart=>exact⟨0,Nat.zero_le _,rfl,by rw [H0.out];exact heap_alloc2_new _ _ _,heap_alloc2_old _ _ _,((Ext.refl w).alloc _).alloc _⟩
 case round=>
   obtain⟨k,hk,rfl,hr1,hr0,hx⟩:=hrel
   by_cases hlt:k<4
   · have hc:=row_v8 hr1 k (by rw [HL.out k hk];exact hlt)
     have hf:=row_free hr1 k
     have hrs:=row_set hr1 k (v8 ((n>>>(8*k)).setWidth 8))
     rw [←List.map_set,HB.out k hlt]at hrs
     go_wp2
     go_roundw
     case rel=>exact⟨k+1,by omega,by go_num,hrs,row_other hr0 _ _ (by simp),ext_setCell hx _ _ (by simp)⟩
     case measure=>simp [intOf]<;>omega
   · obtain rfl:k=4:=by omega
     rw [H1.out]at hr1
     go_wp2_with (first|(with_reducible show wpList _ _ _ _ _ _;refine wpl_load_row rfl rfl rfl hr1 rfl rfl (by simp only [List.length_map,Hl.out];kernel_rfl) ?_)|(with_reducible show wpList _ _ _ _ _ _;refine wpl_store_row (cs:=r.map v8) rfl rfl rfl rfl hr0 (by simp [Hl.out]) (by simp only [List.length_map,Hl.out];kernel_rfl) (one_v8 _) ?_))
     refine ret_row rfl rfl (row_setRow hr0 _) rfl rfl (by simp only [List.length_map,Hl.out];kernel_rfl) rfl ⟨rfl, ?_⟩
     exact ext_setRow hx _ _ (by omega)
@[local go_sem] theorem conv_64_8 (x : BitVec 64) (w : World) : (convert 25 5 (v64 x)).run Tryz.prog w = .ok (v8 (x.setWidth 8)) w := conv64_8 x _ _ _ w rfl rfl
theorem zeros8:(#[Value.int IntKind.u8 0,Value.int IntKind.u8 0,Value.int IntKind.u8 0,Value.int IntKind.u8 0,Value.int IntKind.u8 0,Value.int IntKind.u8 0,Value.int IntKind.u8 0,Value.int IntKind.u8 0]:Array Value)=((List.replicate 8 (0:Byte)).map v8).toArray:=rfl
theorem put64_byte(n:BitVec 64)(k:Nat):((n.setWidth 64)>>>(8*k)).setWidth 8=(n>>>(8*k)).setWidth 8:=by
 apply BitVec.eq_of_getLsbD_eq;intro i hi
 simp [hi]
theorem putlong_any(n:BitVec 64)(w:World):
   Gives Tryz.prog 11 #[v64 n] w (A8 (putL (n.setWidth 64) 8)):=by
 unfold Gives
 have hl:=putL_length (n.setWidth 64) 8
 have hb:∀k,k<8→(fillTo (putL (n.setWidth 64) 8) k).set k ((n>>>(8*k)).setWidth 8)=fillTo (putL (n.setWidth 64) 8) (k+1):=by
   intro k hk
   rw [←put64_byte,←putL_getD (n.setWidth 64) 8 k hk]
   exact fillTo_set _ k (by rw [hl];exact hk)
 have h0:=fillTo_zero' (putL (n.setWidth 64) 8) 8 hl
 have h1:fillTo (putL (n.setWidth 64) 8) 8=putL (n.setWidth 64) 8:=by have:=fillTo_all (putL (n.setWidth 64) 8);rwa [hl]at this
 have hlen:∀k,k≤8→(fillTo (putL (n.setWidth 64) 8) k).length=8:=fun k hk=>by rw [fillTo_length _ _ (by rw [hl];exact hk),hl]
 generalize putL (n.setWidth 64) 8=r at*
 have H0:=hid h0
 have H1:=hid h1
 have HB:=hid hb
 have HL:=hid hlen
 have Hl:=hid hl
 clear h0 h1 hb hlen hl
 go_enter Tryz.func11,Tryz.ntmps11
 go_wp2
 rw [zeros8]
 go_loopw [4,5] (fun _ i wr=>∃k:Nat,k≤8∧i= .int .i64 k∧Row wr (w.heap.size+1) 40 ((fillTo r k).map v8)∧Row wr w.heap.size 40 ((List.replicate 8 (0:Byte)).map v8)∧Ext w wr) (fun _ i _=>8-(intOf i).toNat)
 case atStart=>exact⟨0,Nat.zero_le _,rfl,by rw [H0.out];exact heap_alloc2_new _ _ _,heap_alloc2_old _ _ _,((Ext.refl w).alloc _).alloc _⟩
 case round=>
   obtain⟨k,hk,rfl,hr1,hr0,hx⟩:=hrel
   by_cases hlt:k<8
   · have hc:=row_v8 hr1 k (by rw [HL.out k hk];exact hlt)
     have hf:=row_free hr1 k
     have hrs:=row_set hr1 k (v8 ((n>>>(8*k)).setWidth 8))
     rw [←List.map_set,HB.out k hlt]at hrs
     go_wp2
     go_roundw
     case rel=>exact⟨k+1,by omega,by go_num,hrs,row_other hr0 _ _ (by simp),ext_setCell hx _ _ (by simp)⟩
     case measure=>simp [intOf]<;>omega
   · obtain rfl:k=8:=by omega
     rw [H1.out]at hr1
     go_wp2_with (first|(with_reducible show wpList _ _ _ _ _ _;refine wpl_load_row rfl rfl rfl hr1 rfl rfl (by simp only [List.length_map,Hl.out];kernel_rfl) ?_)|(with_reducible show wpList _ _ _ _ _ _;refine wpl_store_row (cs:=r.map v8) rfl rfl rfl rfl hr0 (by simp [Hl.out]) (by simp only [List.length_map,Hl.out];kernel_rfl) (one_v8 _) ?_))
     refine ret_row rfl rfl (row_setRow hr0 _) rfl rfl (by simp only [List.length_map,Hl.out];kernel_rfl) rfl ⟨rfl, ?_⟩
     exact ext_setRow hx _ _ (by omega)
end Go.Proofs.YtneacgpmjlocjaaGreatDoor
