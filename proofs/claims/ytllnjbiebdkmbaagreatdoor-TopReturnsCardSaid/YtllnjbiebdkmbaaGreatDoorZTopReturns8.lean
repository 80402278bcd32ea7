/-
  Texts of the program, walked, and plain ones. Conditions: those written in each theorem.
-/
import Derived.Test.YtllnjbiebdkmbaaGreatDoorZTopReturns0
import Derived.Test.YtllnjbiebdkmbaaGreatDoorZTopReturns4
import Derived.Test.YtllnjbiebdkmbaaGreatDoorZTopReturns6
set_option linter.unusedSimpArgs false
set_option linter.unusedVariables false
set_option maxHeartbeats 16000000
namespace Go.Proofs.YtllnjbiebdkmbaaGreatDoor
open Go
theorem both_zero(a:List Byte)(h:a.length=16):bothL a (zer 16)=a:=nth_ext (by rw [bothL_length,h]) fun i hi=>by
 rw [bothL_length]at hi
 rw [bothL_nth _ _ _ hi,zer,nth_tab hi];simp
theorem both_comm(a b:List Byte):bothL a b=bothL b a:=nth_ext (by simp [bothL_length]) fun i hi=>by
 rw [bothL_length]at hi
 rw [bothL_nth _ _ _ hi,bothL_nth _ _ _ hi,BitVec.xor_comm]
theorem both_assoc(a b c:List Byte):bothL (bothL a b) c=bothL a (bothL b c):=nth_ext (by simp [bothL_length]) fun i hi=>by
 rw [bothL_length]at hi
 rw [bothL_nth _ _ _ hi,bothL_nth _ _ _ hi,bothL_nth _ _ _ hi,bothL_nth _ _ _ hi,BitVec.xor_assoc]
theorem zero_both(a:List Byte)(h:a.length=16):bothL (zer 16) a=a:=by rw [both_comm,both_zero a h]
theorem both_self(a:List Byte):bothL a a=zer 16:=nth_ext (by rw [bothL_length,zer_length]) fun i hi=>by
 rw [bothL_length]at hi
 rw [bothL_nth _ _ _ hi,zer,nth_tab hi];simp
theorem both_back(a b:List Byte)(h:a.length=16):bothL (bothL a b) b=a:=by rw [both_assoc,both_self,both_zero a h]
theorem both_four(a b c d:List Byte):bothL (bothL a b) (bothL c d)=bothL (bothL a c) (bothL b d):=by
 rw [both_assoc,both_assoc,←both_assoc b c d,both_comm b c,both_assoc c b d]
def dblF(a:List Byte)(i:Nat):Byte:=if i<15 then(nth a i<<<1)|||(nth a (i+1)>>>7)else(nth a 15<<<1)^^^((nth a 0>>>7)*135#8)
def dblL(a:List Byte):List Byte:=tab 16 (dblF a)
theorem dblL_length(a:List Byte):(dblL a).length=16:=tab_length
def dblN(a:List Byte):Nat→List Byte
 |0=>a
 |n+1=>dblL (dblN a n)
theorem dblN_length(a:List Byte)(h:a.length=16):∀n,(dblN a n).length=16
 |0=>h
 |_+1=>dblL_length _
theorem dblN_add(a:List Byte)(m:Nat):∀n,dblN a (m+n)=dblN (dblN a m) n
 |0=>rfl
 |n+1=>by rw [←Nat.add_assoc,dblN,dblN_add a m n];rfl
def bitA(a:List Byte)(i:Nat):Bool:=(nth a (15-i/8)).getLsbD (i%8)
theorem bits_ext {a b:List Byte}(ha:a.length=16)(hb:b.length=16)(h:∀i,i<128→bitA a i=bitA b i):a=b:=nth_ext (by rw [ha,hb]) fun k hk=>by
 rw [ha]at hk
 apply BitVec.eq_of_getLsbD_eq
 intro r hr
 have:=h (8*(15-k)+r) (by omega)
 unfold bitA at this
 rwa [show(8*(15-k)+r)/8=15-k from by omega,show(8*(15-k)+r)%8=r from by omega,show 15-(15-k)=k from by omega]at this
theorem bit_both(a b:List Byte)(i:Nat):bitA (bothL a b) i=(bitA a i^^bitA b i):=by
 unfold bitA;rw [bothL_nth _ _ _ (by omega),BitVec.getLsbD_xor]
theorem bit_zer(i:Nat):bitA (zer 16) i=false:=by unfold bitA;rw [zer,nth_tab (by omega)];simp
def spec(i:Nat):Bool:=i==0||i==1||i==2||i==7
theorem spec_bits:∀(b:Byte)(r:Fin 8),((b>>>7)*135#8).getLsbD r.val=(b.getLsbD 7&&spec r.val):=by decide+kernel
theorem spec_at(b:Byte)(r:Nat)(hr:r<8):((b>>>7)*135#8).getLsbD r=(b.getLsbD 7&&spec r):=spec_bits b ⟨r,hr⟩
theorem bit_dbl(a:List Byte)(i:Nat)(hi:i<128):bitA (dblL a) i=((decide (i≠0)&&bitA a (i-1))^^(bitA a 127&&spec i)):=by
 unfold bitA
 rw [dblL,nth_tab (by omega),dblF]
 by_cases hq:i<8
 · rw [if_neg (by omega),show i%8=i from by omega,BitVec.getLsbD_xor,spec_at _ i hq,BitVec.getLsbD_shiftLeft]
   rcases Nat.eq_zero_or_pos i with rfl|h0
   · simp
   · rw [show(i-1)/8=0 from by omega,show(i-1)%8=i-1 from by omega]
     have h1:i≠0:=by omega
     have h2:¬i<1:=by omega
     simp [h1,h2,hq]
 · rw [if_pos (by omega),BitVec.getLsbD_or,BitVec.getLsbD_shiftLeft,BitVec.getLsbD_ushiftRight]
   have hs:spec i=false:=by unfold spec;simp;omega
   have h1:i≠0:=by omega
   rw [hs]
   rcases Nat.eq_zero_or_pos (i%8)with h0|h0
   · rw [h0,show(i-1)/8=i/8-1 from by omega,show(i-1)%8=7 from by omega,show 15-(i/8-1)=15-i/8+1 from by omega]
     simp [h1]
   · rw [show(i-1)/8=i/8 from by omega,show(i-1)%8=i%8-1 from by omega]
     have h2:¬i%8<1:=by omega
     have h3:i%8<8:=by omega
     have h4:(nth a (15-i/8+1)).getLsbD (7+i%8)=false:=BitVec.getLsbD_of_ge _ _ (by omega)
     have h5:i%8≠0:=by omega
     simp [h1,h2,h3,h4,h5]
theorem dbl_both(a b:List Byte):dblL (bothL a b)=bothL (dblL a) (dblL b):=bits_ext (dblL_length _) (bothL_length _ _) fun i hi=>by
 rw [bit_both,bit_dbl _ _ hi,bit_dbl _ _ hi,bit_dbl _ _ hi,bit_both,bit_both]
 cases decide (i≠0)<;>cases bitA a (i-1)<;>cases bitA b (i-1)<;>cases bitA a 127<;>cases bitA b 127<;>cases spec i<;>rfl
theorem dblN_both(a b:List Byte):∀n,dblN (bothL a b) n=bothL (dblN a n) (dblN b n)
 |0=>rfl
 |n+1=>by rw [dblN,dblN_both a b n,dbl_both];rfl
theorem dbl_zer:dblL (zer 16)=zer 16:=bits_ext (dblL_length _) zer_length fun i hi=>by rw [bit_dbl _ _ hi,bit_zer,bit_zer,bit_zer];simp
theorem dblN_zer:∀n,dblN (zer 16) n=zer 16
 |0=>rfl
 |n+1=>by rw [dblN,dblN_zer n,dbl_zer]
def msum(c:Nat→Bool)(a:List Byte):Nat→List Byte
 |0=>zer 16
 |k+1=>if c k=true then bothL (msum c a k) (dblN a k)else msum c a k
theorem msum_length(c:Nat→Bool)(a:List Byte):∀k,(msum c a k).length=16
 |0=>zer_length
 |k+1=>by rw [msum];split;exact bothL_length _ _;exact msum_length c a k
theorem msum_congr {c d:Nat→Bool}(a:List Byte):∀k,(∀i,i<k→c i=d i)→msum c a k=msum d a k
 |0,_=>rfl
 |k+1,h=>by rw [msum,msum,h k (by omega),msum_congr a k fun i hi=>h i (by omega)]
theorem msum_both(c:Nat→Bool)(a b:List Byte):∀k,msum c (bothL a b) k=bothL (msum c a k) (msum c b k)
 |0=>(both_zero (zer 16) zer_length).symm
 | k +1=>by
   have ih:=msum_both c a b k
   by_cases h:c k=true
   · simp only [msum,if_pos h]
     rw [ih,dblN_both,both_four]
   · simp only [msum,if_neg h]
     exact ih
theorem msum_xor(c d:Nat→Bool)(a:List Byte)(ha:a.length=16):∀k,msum (fun i=>c i^^d i) a k=bothL (msum c a k) (msum d a k)
 |0=>(both_zero (zer 16) zer_length).symm
 | k+1=>by
   rw [msum,msum,msum,msum_xor c d a ha k]
   cases c k<;>cases d k<;>simp only [Bool.xor_false,Bool.xor_true,Bool.not_true,Bool.not_false,if_true,if_false,Bool.false_eq_true]
   · rw [both_assoc]
   · rw [both_assoc,both_comm (msum d a k),←both_assoc]
   · rw [both_four,both_self,both_zero _ (bothL_length _ _)]
theorem msum_none(c:Nat→Bool)(a:List Byte)(n:Nat)(h:∀i,n≤i→c i=false):∀k,msum c a (n+k)=msum c a n
 |0=>rfl
 |k+1=>by rw [←Nat.add_assoc,msum,h _ (by omega),if_neg (by decide),msum_none c a n h k]
theorem msum_none'(c:Nat→Bool)(a:List Byte){n m:Nat}(hm:n≤m)(h:∀i,n≤i→i<m→c i=false):msum c a m=msum c a n:=by
 have e:msum c a m=msum (fun i=>c i&&decide (i<n)) a m:=msum_congr a m fun i hi=>by
   by_cases hn:i<n
   · simp [hn]
   · simp [hn,h i (by omega) hi]
 rw [e,show m=n+(m-n)from by omega,msum_none _ _ _ (fun i hi=>by simp;omega)]
 exact msum_congr a n fun i hi=>by simp [hi]
theorem msum_dblN(c:Nat→Bool)(a:List Byte)(m:Nat):∀k,msum c (dblN a m) k=dblN (msum c a k) m
 |0=>by rw [msum,msum,dblN_zer]
 | k +1=>by
   have ih:=msum_dblN c a m k
   by_cases h:c k=true
   · simp only [msum,if_pos h]
     rw [ih,dblN_both,←dblN_add,←dblN_add,Nat.add_comm]
   · simp only [msum,if_neg h]
     exact ih
theorem msum_shift(c:Nat→Bool)(a:List Byte):∀k,msum (fun i=>decide (i≠0)&&c (i-1)) a (k+1)=dblL (msum c a k)
 |0=>by rw [msum,msum,msum];simp [dbl_zer]
 | k+1=>by
   have ih:=msum_shift c a k
   have e:(decide (k+1≠0)&&c (k+1-1))=c k:=by simp
   rw [msum,e,ih]
   by_cases h:c k=true
   · rw [if_pos h,msum,if_pos h,dbl_both];rfl
   · rw [if_neg h,msum,if_neg h]
def oneL:List Byte:=tab 16 fun i=>if i=15 then 1#8 else 0#8
theorem oneL_length:oneL.length=16:=tab_length
theorem bit_one(j:Nat)(hj:j<128):bitA oneL j=decide (j=0):=by
 unfold bitA
 rw [oneL,nth_tab (by omega)]
 by_cases h:j<8
 · rw [if_pos (by omega),show j%8=j from by omega,BitVec.getLsbD_one];simp
 · rw [if_neg (by omega)];simp;omega
theorem bit_oneN:∀k,k<128→∀j,j<128→bitA (dblN oneL k) j=decide (j=k)
 |0,_,j,hj=>bit_one j hj
 | k +1,hk,j,hj=>by
   rw [dblN,bit_dbl _ _ hj,bit_oneN k (by omega) 127 (by omega),decide_eq_false (show¬127=k by omega)]
   rcases Nat.eq_zero_or_pos j with rfl|h
   · simp
   · rw [bit_oneN k (by omega) (j-1) (by omega)]
     by_cases e:j=k+1
     · subst e;simp
     · rw [decide_eq_false e,decide_eq_false (show¬j-1=k by omega)];simp
theorem bit_msum(c:Nat→Bool):∀k,k≤128→∀j,j<128→bitA (msum c oneL k) j=(decide (j<k)&&c j)
 |0,_,j,_=>by rw [msum,bit_zer];simp
 | k + 1,hk,j,hj=>by
   rw [msum]
   by_cases hc:c k=true
   · rw [if_pos hc,bit_both,bit_msum c k (by omega) j hj,bit_oneN k (by omega) j hj]
     rcases Nat.lt_trichotomy j k with h|h|h
     · simp [h,show j<k+1 by omega,show j≠k by omega]
     · subst h;simp [hc]
     · simp [show¬j<k by omega,show¬j<k+1 by omega,show j≠k by omega]
   · rw [if_neg hc,bit_msum c k (by omega) j hj]
     by_cases h:j=k
     · subst h;simp [hc]
     · by_cases h2:j<k
       · simp [h2,show j<k+1 by omega]
       · simp [h2,show¬j<k+1 by omega]
theorem ev_bits(a:List Byte)(h:a.length=16):msum (bitA a) oneL 128=a:=bits_ext (msum_length _ _ _) h fun i hi=>by rw [bit_msum _ 128 (Nat.le_refl _) i hi];simp [hi]
def topL:List Byte:=msum spec oneL 128
theorem topL_length:topL.length=16:=msum_length _ _ _
theorem one_128:dblN oneL 128=topL:=bits_ext (dblN_length _ oneL_length _) topL_length fun i hi=>by
 rw [topL,bit_msum _ 128 (Nat.le_refl _) i hi,show(128:Nat)=127+1 from rfl,dblN,bit_dbl _ _ hi,bit_oneN 127 (by omega) 127 (by omega),bit_oneN 127 (by omega) (i-1) (by omega),decide_eq_false (show¬i-1=127 by omega)]
 simp [hi]
theorem dbl_128(a:List Byte)(h:a.length=16):dblN a 128=msum spec a 128:=by
 have e:dblN (msum (bitA a) oneL 128) 128=msum spec (msum (bitA a) oneL 128) 128:=by
   have swap:∀k n,msum spec (msum (bitA a) oneL n) k=msum (bitA a) (msum spec oneL k) n:=by
     intro k n
     induction k with
     | zero=>
       rw [msum,msum]
       induction n with
       |zero=>rfl
       |succ n ih=>rw [msum,dblN_zer,both_zero _ (msum_length _ _ _),ite_self];exact ih
     | succ k ih=>
       rw [msum,msum,ih]
       by_cases h:spec k=true
       · rw [if_pos h,if_pos h,msum_both,msum_dblN]
       · rw [if_neg h,if_neg h]
   rw [swap,←msum_dblN,one_128,topL]
 rwa [ev_bits a h]at e
def prodL(a b:List Byte):List Byte:=msum (bitA b) a 128
theorem prodL_length(a b:List Byte):(prodL a b).length=16:=msum_length _ _ _
theorem prod_dbl(a b:List Byte)(ha:a.length=16):prodL a (dblL b)=dblL (prodL a b):=by
 have e1:prodL a (dblL b)=msum (fun i=>(decide (i≠0)&&bitA b (i-1))^^(bitA b 127&&spec i)) a 128:=msum_congr a 128 fun i hi=>bit_dbl b i hi
 have e2:msum (bitA b) a (127+1)=if bitA b 127=true then bothL (msum (bitA b) a 127) (dblN a 127)else msum (bitA b) a 127:=by rw [msum]
 have e3:=dbl_128 a ha
 rw [show(128:Nat)=127+1 from rfl,dblN]at e3
 rw [e1,msum_xor _ _ _ ha,prodL,show(128:Nat)=127+1 from rfl,msum_shift (bitA b) a 127,e2]
 by_cases h:bitA b 127=true
 · rw [if_pos h,h,dbl_both]
   congr 1
   simp only [Bool.true_and]
   exact e3.symm
 · have h':bitA b 127=false:=by cases hb:bitA b 127<;>simp_all
   rw [if_neg h,h']
   simp only [Bool.false_and]
   rw [show msum (fun _=>false) a (127+1)=zer 16 from msum_none' _ a (Nat.zero_le _) fun _ _ _=>rfl,both_zero _ (dblL_length _)]
theorem prod_one(a:List Byte)(ha:a.length=16):prodL a oneL=a:=by
 rw [prodL,show msum (bitA oneL) a 128=msum (bitA oneL) a 1 from msum_none' _ a (by omega) fun i h1 h2=>by rw [bit_one i h2];simp;omega,msum,msum,bit_one 0 (by omega)]
 simp [dblN,zero_both a ha]
theorem prod_pow(a:List Byte)(ha:a.length=16):∀m,prodL a (dblN oneL m)=dblN a m
 |0=>prod_one a ha
 |m+1=>by rw [dblN,prod_dbl _ _ ha,prod_pow a ha m];rfl
def mulL(n:BitVec 64)(a:List Byte):List Byte:=msum n.getLsbD a 64
theorem mulL_length(n:BitVec 64)(a:List Byte):(mulL n a).length=16:=msum_length _ _ _
theorem mul_zero(a:List Byte):mulL 0#64 a=zer 16:=by
 rw [mulL,msum_none' (n:=0) _ a (Nat.zero_le _) fun i _ _=>by simp];rfl
theorem mul_end(n:BitVec 64)(a:List Byte)(k:Nat)(hk:k≤64)(h:n>>>k=0#64):msum n.getLsbD a k=mulL n a:=by
 rw [mulL,msum_none' _ a hk]
 intro i h1 h2
 have:=congrArg (fun z=>z.getLsbD (i-k)) h
 simp only [BitVec.getLsbD_ushiftRight]at this
 rw [show k+(i-k)=i from by omega]at this
 simpa using this
def bb(c:Bool):Byte:=if c=true then 1#8 else 0#8
def pc(p:List Byte)(i:Nat):Bool:=(nth p i).getLsbD 0
def isP(p:List Byte):Prop:=p.length=256∧∀i,nth p i=bb (pc p i)
def evP(l:List Byte):List Byte:=msum (pc l) oneL 256
def cmK(p out:List Byte)(i:Nat):Nat→List Byte
 |0=>out
 |k+1=>setN (cmK p out i k) (i+k) (nth (cmK p out i k) (i+k)^^^nth p k)
def cmI(p q:List Byte):Nat→List Byte
 |0=>zer 256
 |i+1=>if nth q i=0#8 then cmI p q i else cmK p (cmI p q i) i 128
def put1(l:List Byte)(i:Nat):List Byte:=setN l i (nth l i^^^1#8)
def rd1(l:List Byte)(i a b c:Nat):List Byte:=
 if nth l i=1#8 then put1 (put1 (put1 (put1 (setN l i 0#8) (i-128+a)) (i-128+b)) (i-128+c)) (i-128)else l
def rdF(l:List Byte)(a b c:Nat):Nat→List Byte
 |0=>l
 |j+1=>rd1 (rdF l a b c j) (254-j) a b c
def restL(p q:List Byte)(a b c:Nat):List Byte:=rdF (cmI p q 128) a b c 127
def hiF(p:List Byte):Nat→List Byte
 |0=>zer 16
 |k+1=>setN (hiF p k) (15-k/8) (nth (hiF p k) (15-k/8)+(nth p k<<<(k%8)))
def highF(a:List Byte)(k:Nat):Byte:=(nth a (15-k/8)>>>(k%8))%2#8
def highL(a:List Byte):List Byte:=part 256 128 (highF a) fun _=>0
def numF(n:BitVec 64)(k:Nat):Byte:=((n>>>k)%2#64).setWidth 8
def numL(n:BitVec 64):List Byte:=part 256 64 (numF n) fun _=>0
open Go Go.RowKit
set_option maxRecDepth 100000
attribute [go_sem] putL_length
theorem over_low(lo:List Byte)(h:lo.length=8):over (List.replicate 16 0) 0 (lo.take 16)=lo++List.replicate 8 0:=by
 rw [List.take_of_length_le (by omega)]
 simp [over,h]
theorem over_high(lo hi:List Byte)(h:lo.length=8)(h2:hi.length=8):over (lo++List.replicate 8 0) 8 (hi.take 8)=lo++hi:=by
 rw [List.take_of_length_le (by omega)]
 simp [over,h,h2,List.drop_append]
theorem bytes_any(lo hi:BitVec 64)(w:World):
   Gives Tryz.prog 32 #[WV lo hi] w (A8 (putL lo 8++putL hi 8)):=by
 unfold Gives
 obtain⟨W,hW⟩:∃W,W=((w.alloc (.cells #[v64 lo,v64 hi] 71)).alloc (.cells #[Value.int IntKind.u8 0,Value.int IntKind.u8 0,Value.int IntKind.u8 0,Value.int IntKind.u8 0,Value.int IntKind.u8 0,Value.int IntKind.u8 0,Value.int IntKind.u8 0,Value.int IntKind.u8 0,Value.int IntKind.u8 0,Value.int IntKind.u8 0,Value.int IntKind.u8 0,Value.int IntKind.u8 0,Value.int IntKind.u8 0,Value.int IntKind.u8 0,Value.int IntKind.u8 0,Value.int IntKind.u8 0] 68)).alloc (.cells #[Value.int IntKind.u8 0,Value.int IntKind.u8 0,Value.int IntKind.u8 0,Value.int IntKind.u8 0,Value.int IntKind.u8 0,Value.int IntKind.u8 0,Value.int IntKind.u8 0,Value.int IntKind.u8 0,Value.int IntKind.u8 0,Value.int IntKind.u8 0,Value.int IntKind.u8 0,Value.int IntKind.u8 0,Value.int IntKind.u8 0,Value.int IntKind.u8 0,Value.int IntKind.u8 0,Value.int IntKind.u8 0] 68):=⟨_,rfl⟩
 have hE:Ext w W:=by rw [hW];exact(((Ext.refl w).alloc _).alloc _).alloc _
 have hsz:W.heap.size=w.heap.size+3:=by rw [hW];simp
 have hA:Row W w.heap.size 71 [v64 lo,v64 hi]:=by rw [hW];exact row_alloc (row_alloc (row_new _ _ _) _) _
 have hR:Row W (w.heap.size+1) 68 ((List.replicate 16 (0:Byte)).map v8):=by rw [hW];exact row_alloc (heap_alloc2_new _ _ _) _
 have hO:Row W (w.heap.size+2) 68 ((List.replicate 16 (0:Byte)).map v8):=by
   rw [hW]
   have:=row_new ((w.alloc (.cells #[v64 lo,v64 hi] 71)).alloc (.cells #[Value.int IntKind.u8 0,Value.int IntKind.u8 0,Value.int IntKind.u8 0,Value.int IntKind.u8 0,Value.int IntKind.u8 0,Value.int IntKind.u8 0,Value.int IntKind.u8 0,Value.int IntKind.u8 0,Value.int IntKind.u8 0,Value.int IntKind.u8 0,Value.int IntKind.u8 0,Value.int IntKind.u8 0,Value.int IntKind.u8 0,Value.int IntKind.u8 0,Value.int IntKind.u8 0,Value.int IntKind.u8 0] 68)) 68 ((List.replicate 16 (0:Byte)).map v8)
   rwa [show((w.alloc (.cells #[v64 lo,v64 hi] 71)).alloc (.cells #[Value.int IntKind.u8 0,Value.int IntKind.u8 0,Value.int IntKind.u8 0,Value.int IntKind.u8 0,Value.int IntKind.u8 0,Value.int IntKind.u8 0,Value.int IntKind.u8 0,Value.int IntKind.u8 0,Value.int IntKind.u8 0,Value.int IntKind.u8 0,Value.int IntKind.u8 0,Value.int IntKind.u8 0,Value.int IntKind.u8 0,Value.int IntKind.u8 0,Value.int IntKind.u8 0,Value.int IntKind.u8 0] 68)).heap.size=w.heap.size+2 from by simp]at this
 have HW:=Lib.hid hW
 have Hsz:=Lib.hid hsz
 clear hW hsz
 have cA:=fun wx (hwx:Ext W wx)=>row_cell (row_ext hA hwx) 0
 have cB:=fun wx (hwx:Ext W wx)=>row_cell (row_ext hA hwx) 1
 simp only [List.getElem?_cons_zero,List.getElem?_cons_succ]at cA cB
 have hB:W.heap.size≤W.heap.size:=Nat.le_refl _
 go_enter Tryz.func32,Tryz.ntmps32
 go_wp2
 rw [←HW.out]
 refine region_new 8 (fun w'=>Ext W w') 19 (by kernel_rfl) (by kernel_rfl) rfl (fun _ _ h k=>h.trans k) (drew_ext _) ?_
 simp only [tSC,List.take_zero,dSC,List.drop_zero,List.map_cons,List.map_nil]
 repeat (first
     | (apply walk_some (NewS (W.heap.size) 94 ((List.replicate 8 (0:Byte)).map v8)) 4 (NewS.stable _ _ _) rfl rfl rfl rfl
        · (intro wx hwx;go_simp;exact gives_new (cs:=(List.replicate 8 (0:Byte)).map v8) hwx.size))
     | (apply walk_some (NewS (W.heap.size) 94 ((List.replicate 8 (0:Byte)).map v8)) 5 (NewS.stable _ _ _) rfl rfl rfl rfl
        · (intro wx hwx;go_simp;exact gives_new (cs:=(List.replicate 8 (0:Byte)).map v8) hwx.size))
     | (apply walk_is rfl rfl rfl
        · (intro wx hwx;go_simp;(try go_bits);first|exact gives_same|exact gives_skip|exact gives_call (putlong_any _ wx))
        · (simp only [Act.put,sIB,sCS,sCZ];rfl))
     | (apply walk_not rfl rfl rfl
        · (simp only [Act.put,sIB,sCS,sCZ];rfl)))
 intro wz hwz
 simp only [zCC,zNR]
 repeat rw [fin_is]
 rw [fin_cons];intro x4 hx4
 repeat rw [fin_is]
 rw [fin_cons];intro x5 hx5
 repeat rw [fin_is]
 rw [fin_nil];intro hap
 simp only [Act.put,sIB,sCS,sCZ]at hap⊢
 obtain⟨g4,rfl,hg4,hr4⟩:=hx4
 obtain⟨g5,rfl,hg5,hr5⟩:=hx5
 have hne:=apart_of hap (d:=4) (e:=5) (by decide) (by decide) (by decide) rfl rfl
 clear hap
 have hs3:=Hsz.out
 go_wp2_with (with_reducible show wpList _ _ _ _ _ _;first|(refine wpl_store_row (cs:=(putL lo 8).map v8) rfl rfl rfl rfl hr4 (by simp [putL_length]) (by simp only [List.length_map,putL_length];kernel_rfl) (one_v8 _) ?_)|(refine wpl_store_row (cs:=(putL hi 8).map v8) rfl rfl rfl rfl (row_setRow_other hr5 _ (Ne.symm hne)) (by simp [putL_length]) (by simp only [List.length_map,putL_length];kernel_rfl) (one_v8 _) ?_))
 have h4:=row_setRow_other (row_setRow hr4 ((putL lo 8).map v8)) ((putL hi 8).map v8).toArray hne
 have h5:=row_setRow (row_setRow_other hr5 ((putL lo 8).map v8).toArray (Ne.symm hne)) ((putL hi 8).map v8)
 have hO1:=row_setRow_other (row_setRow_other (row_ext hO hwz) ((putL lo 8).map v8).toArray (show w.heap.size+2≠g4 by omega)) ((putL hi 8).map v8).toArray (show w.heap.size+2≠g5 by omega)
 have hR1:=row_setRow_other (row_setRow_other (row_ext hR hwz) ((putL lo 8).map v8).toArray (show w.heap.size+1≠g4 by omega)) ((putL hi 8).map v8).toArray (show w.heap.size+1≠g5 by omega)
 have hE1:=ext_setRow (ext_setRow (hE.trans hwz) g4 ((putL lo 8).map v8).toArray (by omega)) g5 ((putL hi 8).map v8).toArray (by omega)
 generalize (wz.setRow g4 ((putL lo 8).map v8).toArray).setRow g5 ((putL hi 8).map v8).toArray=W1 at*
 clear hr4 hr5 hR hO hA cA cB hs3
 refine region_at 2 (fun w'=>Ext W1 w') 19 (by kernel_rfl) (by kernel_rfl) rfl (fun _ _ h k=>h.trans k) (drew_ext _) ?_
 simp only [tSC,List.take_zero,dSC,List.drop_zero,List.map_cons,List.map_nil]
 repeat (first
     | (apply walk_is rfl rfl rfl
        · (intro wx hwx;go_simp;(try go_bits);first|exact gives_same|exact gives_skip)
        · (simp only [Act.put,sIB,sCS,sCZ];rfl))
     | (apply walk_not rfl rfl rfl
        · (simp only [Act.put,sIB,sCS,sCZ];rfl)))
 intro wz hwz
 simp only [zCC,zNR]
 repeat (first|rw [fin_is]|(rw [fin_cons];intro _ _))
 rw [fin_nil]
 try (replace hm:=hm.ext hwz)
 simp only [Act.put,sIB,sCS,sCZ]
 refine wpl_copy (over_low (putL lo 8) (putL_length lo 8)) rfl rfl rfl rfl (putL_length lo 8).symm rfl (by kernel_rfl) (row_ext hO1 hwz) (by simp) (RdB.of_row (row_ext h4 hwz)) ?_
 have hO2:=row_setRow (row_ext hO1 hwz) ((putL lo 8++List.replicate 8 0).map v8)
 have hR2:=row_setRow_other (row_ext hR1 hwz) ((putL lo 8++List.replicate 8 0).map v8).toArray (show w.heap.size+1≠w.heap.size+2 by omega)
 have hs3:=Hsz.out
 have h52:=row_setRow_other (row_ext h5 hwz) ((putL lo 8++List.replicate 8 0).map v8).toArray (show g5≠w.heap.size+2 by omega)
 have hE2:=ext_setRow (hE1.trans hwz) (w.heap.size+2) ((putL lo 8++List.replicate 8 0).map v8).toArray (by omega)
 generalize wz.setRow (w.heap.size+2) ((putL lo 8++List.replicate 8 0).map v8).toArray=W2 at*
 clear h4 h5 hO1 hR1 hE1 hs3
 go_wp2
 refine region_at 2 (fun w'=>Ext W2 w') 19 (by kernel_rfl) (by kernel_rfl) rfl (fun _ _ h k=>h.trans k) (drew_ext _) ?_
 simp only [tSC,List.take_zero,dSC,List.drop_zero,List.map_cons,List.map_nil]
 repeat (first
     | (apply walk_is rfl rfl rfl
        · (intro wx hwx;go_simp;(try go_bits);first|exact gives_same|exact gives_skip)
        · (simp only [Act.put,sIB,sCS,sCZ];rfl))
     | (apply walk_not rfl rfl rfl
        · (simp only [Act.put,sIB,sCS,sCZ];rfl)))
 intro wz hwz
 simp only [zCC,zNR]
 repeat (first|rw [fin_is]|(rw [fin_cons];intro _ _))
 rw [fin_nil]
 try (replace hm:=hm.ext hwz)
 simp only [Act.put,sIB,sCS,sCZ]
 refine wpl_copy (over_high (putL lo 8) (putL hi 8) (putL_length lo 8) (putL_length hi 8)) rfl rfl rfl rfl (putL_length hi 8).symm rfl (by kernel_rfl) (row_ext hO2 hwz) (by simp [putL_length]) (RdB.of_row (row_ext h52 hwz)) ?_
 have hO3:=row_setRow (row_ext hO2 hwz) ((putL lo 8++putL hi 8).map v8)
 have hR3:=row_setRow_other (row_ext hR2 hwz) ((putL lo 8++putL hi 8).map v8).toArray (show w.heap.size+1≠w.heap.size+2 by omega)
 have hE3:=ext_setRow (hE2.trans hwz) (w.heap.size+2) ((putL lo 8++putL hi 8).map v8).toArray (by omega)
 have hl16:(putL lo 8++putL hi 8).length=16:=by simp [putL_length]
 have Hl:=Lib.hid hl16
 clear hl16
 generalize hrr:putL lo 8++putL hi 8=r at*
 have Hrr:=Lib.hid hrr
 clear hrr
 generalize wz.setRow (w.heap.size+2) (r.map v8).toArray=W3 at*
 go_wp2_with (with_reducible show wpList _ _ _ _ _ _;first|(refine wpl_load_row rfl rfl rfl hO3 rfl rfl (by simp only [List.length_map,Hl.out];kernel_rfl) ?_)|(refine wpl_store_row (cs:=r.map v8) rfl rfl rfl rfl hR3 (by simp [Hl.out]) (by simp only [List.length_map,Hl.out];kernel_rfl) (one_v8 _) ?_))
 refine ret_row rfl rfl (row_setRow hR3 _) rfl rfl (by simp only [List.length_map,Hl.out];kernel_rfl) rfl ⟨by rw [Hrr.out], ?_⟩
 exact ext_setRow hE3 _ _ (by omega)
/-! ### The reference's bytes of a number -/
@[local go_sem] theorem conv_64_8' (x : BitVec 64) (w : World) : (convert 69 5 (v64 x)).run Tryz.prog w = .ok (v8 (x.setWidth 8)) w := conv64_8 x _ _ _ w rfl rfl
theorem putlong_any'(n:BitVec 64)(w:World):Gives Tryz.prog 43 #[v64 n] w (A8 (putL n 8)):=by
 have:=putlong_any n w;rwa [BitVec.setWidth_eq]at this
def carryB(x y c:BitVec 64):BitVec 64:=BitVec.ofNat 64 ((x.toNat+y.toNat+c.toNat)/2^64)
def borrowB(x y c:BitVec 64):BitVec 64:=if x.toNat<y.toNat+c.toNat then 1 else 0
theorem carry_le(x y c:BitVec 64)(h:c.toNat≤1):(carryB x y c).toNat≤1:=by
 have:=x.isLt;have:=y.isLt
 simp only [carryB,BitVec.toNat_ofNat];omega
theorem borrow_le(x y c:BitVec 64):(borrowB x y c).toNat≤1:=by
 unfold borrowB;split<;>simp
theorem add64_run(x y c:BitVec 64)(hc:c.toNat≤1)(w:World):(callFunc 88 #[v64 x,v64 y,v64 c]).run Tryz.prog w= .ok (.value (.tuple #[v64 (x+y+c),v64 (carryB x y c)])) w:=by
 have h:=run_callFunc_extern (P:=Tryz.prog) (f:=88) (fn:=Tryz.f88) (e:=add64Entry) (by kernel_rfl) (by kernel_rfl) (by kernel_rfl) (by kernel_rfl) (by rfl) #[v64 x,v64 y,v64 c] w
 rw [h]
 unfold v64
 have hx:=x.isLt;have hy:=y.isLt
 have e1:((x.toNat:Int)+y.toNat+c.toNat)%18446744073709551616=((x+y+c).toNat:Int):=by simp only [BitVec.toNat_add];omega
 have e2:((x.toNat:Int)+y.toNat+c.toNat)/18446744073709551616=((carryB x y c).toNat:Int):=by
   simp only [carryB,BitVec.toNat_ofNat]
   rw [Nat.mod_eq_of_lt (by omega)];omega
 rw [run_add64 _ _ _ (by omega) (by omega) (by omega) (by omega),e1,e2]
 rfl
def sub64Entry:Array Value→Sem Value:=fun args=>do
 let (x, y, b) ← Extern.MathBitsCarry.three "Sub64" args
 pure (Extern.MathBitsCarry.pair ((x+Extern.MathBitsCarry.m64-y-b)%Extern.MathBitsCarry.m64) (if x<y+b then 1 else 0))
theorem sub64_run(x y c:BitVec 64)(hc:c.toNat≤1)(w:World):(callFunc 131 #[v64 x,v64 y,v64 c]).run Tryz.prog w= .ok (.value (.tuple #[v64 (x-y-c),v64 (borrowB x y c)])) w:=by
 have h:=run_callFunc_extern (P:=Tryz.prog) (f:=131) (fn:=Tryz.f131) (e:=sub64Entry) (by kernel_rfl) (by kernel_rfl) (by kernel_rfl) (by kernel_rfl) (by rfl) #[v64 x,v64 y,v64 c] w
 rw [h]
 unfold v64
 have hx:=x.isLt;have hy:=y.isLt
 have key:∀k:Nat,k≤1→(sub64Entry #[.int .u64 x.toNat, .int .u64 y.toNat, .int .u64 (k:Int)]).run Tryz.prog w=
     .ok (Extern.MathBitsCarry.pair ((x.toNat+Extern.MathBitsCarry.m64-y.toNat-k)%Extern.MathBitsCarry.m64) (if x.toNat<y.toNat+k then 1 else 0)) w:=by
   intro k hk
   have:k=0∨k=1:=by omega
   rcases this with rfl|rfl<;>rfl
 rw [key _ hc]
 simp only [Extern.MathBitsCarry.pair,Extern.MathBitsCarry.m64,Result.andThen_ok]
 have e1:(x.toNat+2^64-y.toNat-c.toNat)%2^64=(x-y-c).toNat:=by simp only [BitVec.toNat_sub];omega
 have e2:(if x.toNat<y.toNat+c.toNat then 1 else 0)=(borrowB x y c).toNat:=by unfold borrowB;split<;>rfl
 rw [e1,e2]
 rfl
theorem v64_0:Value.int .u64 0=v64 0#64:=rfl
@[local go_sem] theorem add64_run0 (x y : BitVec 64) (w : World) : (callFunc 88 #[v64 x, v64 y, .int .u64 0]).run Tryz.prog w = .ok (.value (.tuple #[v64 (x + y), v64 (carryB x y 0#64)])) w := by
 have:=add64_run x y 0 (by decide) w;simpa [v64_0]using this
@[local go_sem] theorem add64_run1 (x y a b : BitVec 64) (w : World) : (callFunc 88 #[v64 x, v64 y, v64 (carryB a b 0#64)]).run Tryz.prog w = .ok (.value (.tuple #[v64 (x + y + carryB a b 0#64), v64 (carryB x y (carryB a b 0#64))])) w :=
 add64_run x y _ (carry_le a b 0 (by decide)) w
@[local go_sem] theorem sub64_run0 (x y : BitVec 64) (w : World) : (callFunc 131 #[v64 x, v64 y, .int .u64 0]).run Tryz.prog w = .ok (.value (.tuple #[v64 (x - y), v64 (borrowB x y 0#64)])) w := by
 have:=sub64_run x y 0 (by decide) w;simpa [v64_0]using this
@[local go_sem] theorem sub64_run1 (x y a b : BitVec 64) (w : World) : (callFunc 131 #[v64 x, v64 y, v64 (borrowB a b 0#64)]).run Tryz.prog w = .ok (.value (.tuple #[v64 (x - y - borrowB a b 0#64), v64 (borrowB x y (borrowB a b 0#64))])) w :=
 sub64_run x y _ (borrow_le a b 0) w
@[local go_sem] theorem build_wide' (a b : BitVec 64) (w : World) : (Instr.build 71 #[(0, v64 a), (1, v64 b)]).run Tryz.prog w = .ok (WV a b) w := by kernel_rfl
theorem oplus_any(a b c d:BitVec 64)(w0:World):
   Gives Tryz.prog 85 #[WV a b,WV c d] w0 (WV (a+c) (b+d+carryB a c 0#64)):=by
 unfold Gives
 have hm:=Own.start w0
 go_enter Tryz.func85,Tryz.ntmps85
 go_wp2_with (first|((with_reducible show qLd);first|((with_reducible apply wq_ld1 hm);exact rfl;infer_instance;exact rfl;(focus (repeat first|exact .hd|assumption|apply Has.tl);done);exact rfl))|((((with_reducible show qSt);first|((with_reducible apply wq_stW hm);exact rfl;infer_instance;exact rfl;exact rfl;(focus (repeat first|exact .hd|assumption|apply Swap.tl);done);(focus (first|rfl|omega|(simp;done)|(simp;omega)));(focus (first|rfl|omega|(simp;done)|(simp;omega)));(focus (first|exact one_map _|(simp [one8,one32,one64];done))))));clear hm;intro w hm)|((first|((with_reducible show qAl);first|((with_reducible apply wq_new hm);exact rfl;infer_instance))|((with_reducible show qBx);first|((with_reducible apply wq_boxN hm);exact rfl;exact rfl)));clear hm;intro gx_;intro w hm))
 refine rtO hm rfl rfl (hR:=⟨rfl,hm.x⟩)
theorem ominus_any(a b c d:BitVec 64)(w0:World):
   Gives Tryz.prog 123 #[WV a b,WV c d] w0 (WV (a-c) (b-d-borrowB a c 0#64)):=by
 unfold Gives
 have hm:=Own.start w0
 go_enter Tryz.func123,Tryz.ntmps123
 go_wp2_with (first|((with_reducible show qLd);first|((with_reducible apply wq_ld1 hm);exact rfl;infer_instance;exact rfl;(focus (repeat first|exact .hd|assumption|apply Has.tl);done);exact rfl))|((((with_reducible show qSt);first|((with_reducible apply wq_stW hm);exact rfl;infer_instance;exact rfl;exact rfl;(focus (repeat first|exact .hd|assumption|apply Swap.tl);done);(focus (first|rfl|omega|(simp;done)|(simp;omega)));(focus (first|rfl|omega|(simp;done)|(simp;omega)));(focus (first|exact one_map _|(simp [one8,one32,one64];done))))));clear hm;intro w hm)|((first|((with_reducible show qAl);first|((with_reducible apply wq_new hm);exact rfl;infer_instance))|((with_reducible show qBx);first|((with_reducible apply wq_boxN hm);exact rfl;exact rfl)));clear hm;intro gx_;intro w hm))
 refine rtO hm rfl rfl (hR:=⟨rfl,hm.x⟩)
def carN(a b:List Byte):Nat→Nat
 |0=>0
 |k+1=>((nth a k).toNat+(nth b k).toNat+carN a b k)/256
def plusB(a b:List Byte)(k:Nat):Byte:=BitVec.ofNat 8 ((nth a k).toNat+(nth b k).toNat+carN a b k)
def lessN(a b:List Byte):Nat→Nat
 |0=>0
 |k+1=>1-(256+(nth a k).toNat-(nth b k).toNat-lessN a b k)/256
def minusB(a b:List Byte)(k:Nat):Byte:=BitVec.ofNat 8 (256+(nth a k).toNat-(nth b k).toNat-lessN a b k)
def padN(l:List Byte)(j:Nat):List Byte:=l++List.replicate j 0
theorem room_is(n:Nat)(s:Int)(hs:0<s):((n+roomN n s:Nat):Int)%s=0:=by
 obtain⟨k,rfl⟩:=Int.eq_ofNat_of_zero_le (show 0≤s by omega)
 have hk:0<k:=by omega
 unfold roomN
 rw [if_neg (by omega),Int.toNat_natCast,←Int.natCast_emod]
 have hlt:n%k<k:=Nat.mod_lt _ hk
 have:(n+(k-n%k)%k)%k=0:=by
   by_cases h:n%k=0
   · rw [h,Nat.sub_zero,Nat.mod_self,Nat.add_zero,h]
   · rw [Nat.mod_eq_of_lt (show k-n%k<k by omega)]
     have e:n+(k-n%k)=k*(n/k)+k:=by have:=Nat.div_add_mod n k;omega
     rw [e,Nat.mul_add_mod,Nat.mod_self]
 rw [this];rfl
abbrev RowsV(a b:List Byte)(p q:Option Addr)(c d:Nat)(m:Byte)(s:Int):Value:= .agg #[.slice p a.length c, .slice q b.length d,v8 m, .int .i64 s]
end Go.Proofs.YtllnjbiebdkmbaaGreatDoor
