/-
  Texts of the program, walked, and plain ones. Conditions: those written in each theorem.
-/
import Derived.Test.YtneacgpmjlocjaaGreatDoorZTopText0
import Derived.Test.YtneacgpmjlocjaaGreatDoorZTopText5
import Derived.Test.YtneacgpmjlocjaaGreatDoorZTopText4
import Derived.Test.YtneacgpmjlocjaaGreatDoorZTopText6
set_option linter.unusedSimpArgs false
set_option linter.unusedVariables false
set_option maxHeartbeats 16000000
open Go.Lib (hid)
namespace Go.Proofs.YtneacgpmjlocjaaGreatDoor
open Go
theorem both_zero(a:List Byte)(h:a.length=16):bothL a (zer 16)=a:=nth_ext (by rw [bothL_length,h]) fun i hi=>by
 rw [bothL_length]at hi
 rw [bothL_nth _ _ _ hi,zer,nth_tab hi];simp
theorem both_comm(a b:List Byte):bothL a b=bothL b a:=nth_ext (by simp [bothL_length]) fun i hi=>by
 rw [bothL_length]at hi
 rw [bothL_nth _ _ _ hi,bothL_nth _ _ _ hi,BitVec.xor_comm]
theorem both_assoc(a b c:List Byte):bothL (bothL a b) c=bothL a (bothL b c):=nth_ext (by simp [bothL_length]) fun i hi=>by
 rw [bothL_length]at hi
 rw [bothL_nth _ _ _ hi,bothL_nth _ _ _ hi,bothL_nth _ _ _ hi,bothL_nth _ _ _ hi,BitVec.xor_assoc]
theorem zero_both(a:List Byte)(h:a.length=16):bothL (zer 16) a=a:=by rw [both_comm,both_zero a h]
theorem both_self(a:List Byte):bothL a a=zer 16:=nth_ext (by rw [bothL_length,zer_length]) fun i hi=>by
 rw [bothL_length]at hi
 rw [bothL_nth _ _ _ hi,zer,nth_tab hi];simp
theorem both_back(a b:List Byte)(h:a.length=16):bothL (bothL a b) b=a:=by rw [both_assoc,both_self,both_zero a h]
theorem both_four(a b c d:List Byte):bothL (bothL a b) (bothL c d)=bothL (bothL a c) (bothL b d):=by
 rw [both_assoc,both_assoc,←both_assoc b c d,both_comm b c,both_assoc c b d]
def dblF(a:List Byte)(i:Nat):Byte:=if i<15 then(nth a i<<<1)|||(nth a (i+1)>>>7)else(nth a 15<<<1)^^^((nth a 0>>>7)*135#8)
def dblL(a:List Byte):List Byte:=tab 16 (dblF a)
theorem dblL_length(a:List Byte):(dblL a).length=16:=tab_length
def dblN(a:List Byte):Nat→List Byte
 |0=>a
 |n+1=>dblL (dblN a n)
theorem dblN_length(a:List Byte)(h:a.length=16):∀n,(dblN a n).length=16
 |0=>h
 |_+1=>dblL_length _
theorem dblN_add(a:List Byte)(m:Nat):∀n,dblN a (m+n)=dblN (dblN a m) n
 |0=>rfl
 |n+1=>by rw [←Nat.add_assoc,dblN,dblN_add a m n];rfl
def bitA(a:List Byte)(i:Nat):Bool:=(nth a (15-i/8)).getLsbD (i%8)
theorem bits_ext {a b:List Byte}(ha:a.length=16)(hb:b.length=16)(h:∀i,i<128→bitA a i=bitA b i):a=b:=nth_ext (by rw [ha,hb]) fun k hk=>by
 rw [ha]at hk
 apply BitVec.eq_of_getLsbD_eq
 intro r hr
 have:=h (8*(15-k)+r) (by omega)
 unfold bitA at this
 rwa [show(8*(15-k)+r)/8=15-k from by omega,show(8*(15-k)+r)%8=r from by omega,show 15-(15-k)=k from by omega]at this
theorem bit_both(a b:List Byte)(i:Nat):bitA (bothL a b) i=(bitA a i^^bitA b i):=by
 unfold bitA;rw [bothL_nth _ _ _ (by omega),BitVec.getLsbD_xor]
theorem bit_zer(i:Nat):bitA (zer 16) i=false:=by unfold bitA;rw [zer,nth_tab (by omega)];simp
def spec(i:Nat):Bool:=i==0||i==1||i==2||i==7
theorem spec_bits:∀(b:Byte)(r:Fin 8),((b>>>7)*135#8).getLsbD r.val=(b.getLsbD 7&&spec r.val):=by decide+kernel
theorem spec_at(b:Byte)(r:Nat)(hr:r<8):((b>>>7)*135#8).getLsbD r=(b.getLsbD 7&&spec r):=spec_bits b ⟨r,hr⟩
theorem bit_dbl(a:List Byte)(i:Nat)(hi:i<128):bitA (dblL a) i=((decide (i≠0)&&bitA a (i-1))^^(bitA a 127&&spec i)):=by
 unfold bitA
 rw [dblL,nth_tab (by omega),dblF]
 by_cases hq:i<8
 · rw [if_neg (by omega),show i%8=i from by omega,BitVec.getLsbD_xor,spec_at _ i hq,BitVec.getLsbD_shiftLeft]
   rcases Nat.eq_zero_or_pos i with rfl|h0
   · simp
   · rw [show(i-1)/8=0 from by omega,show(i-1)%8=i-1 from by omega]
     have h1:i≠0:=by omega
     have h2:¬i<1:=by omega
     simp [h1,h2,hq]
 · rw [if_pos (by omega),BitVec.getLsbD_or,BitVec.getLsbD_shiftLeft,BitVec.getLsbD_ushiftRight]
   have hs:spec i=false:=by unfold spec;simp;omega
   have h1:i≠0:=by omega
   rw [hs]
   rcases Nat.eq_zero_or_pos (i%8)with h0|h0
   · rw [h0,show(i-1)/8=i/8-1 from by omega,show(i-1)%8=7 from by omega,show 15-(i/8-1)=15-i/8+1 from by omega]
     simp [h1]
   · rw [show(i-1)/8=i/8 from by omega,show(i-1)%8=i%8-1 from by omega]
     have h2:¬i%8<1:=by omega
     have h3:i%8<8:=by omega
     have h4:(nth a (15-i/8+1)).getLsbD (7+i%8)=false:=BitVec.getLsbD_of_ge _ _ (by omega)
     have h5:i%8≠0:=by omega
     simp [h1,h2,h3,h4,h5]
theorem dbl_both(a b:List Byte):dblL (bothL a b)=bothL (dblL a) (dblL b):=bits_ext (dblL_length _) (bothL_length _ _) fun i hi=>by
 rw [bit_both,bit_dbl _ _ hi,bit_dbl _ _ hi,bit_dbl _ _ hi,bit_both,bit_both]
 cases decide (i≠0)<;>cases bitA a (i-1)<;>cases bitA b (i-1)<;>cases bitA a 127<;>cases bitA b 127<;>cases spec i<;>rfl
theorem dblN_both(a b:List Byte):∀n,dblN (bothL a b) n=bothL (dblN a n) (dblN b n)
 |0=>rfl
 |n+1=>by rw [dblN,dblN_both a b n,dbl_both];rfl
theorem dbl_zer:dblL (zer 16)=zer 16:=bits_ext (dblL_length _) zer_length fun i hi=>by rw [bit_dbl _ _ hi,bit_zer,bit_zer,bit_zer];simp
theorem dblN_zer:∀n,dblN (zer 16) n=zer 16
 |0=>rfl
 |n+1=>by rw [dblN,dblN_zer n,dbl_zer]
def msum(c:Nat→Bool)(a:List Byte):Nat→List Byte
 |0=>zer 16
 |k+1=>if c k=true then bothL (msum c a k) (dblN a k)else msum c a k
theorem msum_length(c:Nat→Bool)(a:List Byte):∀k,(msum c a k).length=16
 |0=>zer_length
 |k+1=>by rw [msum];split;exact bothL_length _ _;exact msum_length c a k
theorem msum_congr {c d:Nat→Bool}(a:List Byte):∀k,(∀i,i<k→c i=d i)→msum c a k=msum d a k
 |0,_=>rfl
 |k+1,h=>by rw [msum,msum,h k (by omega),msum_congr a k fun i hi=>h i (by omega)]
theorem msum_both(c:Nat→Bool)(a b:List Byte):∀k,msum c (bothL a b) k=bothL (msum c a k) (msum c b k)
 |0=>(both_zero (zer 16) zer_length).symm
 | k +1=>by
   have ih:=msum_both c a b k
   by_cases h:c k=true
   · simp only [msum,if_pos h]
     rw [ih,dblN_both,both_four]
   · simp only [msum,if_neg h]
     exact ih
theorem msum_xor(c d:Nat→Bool)(a:List Byte)(ha:a.length=16):∀k,msum (fun i=>c i^^d i) a k=bothL (msum c a k) (msum d a k)
 |0=>(both_zero (zer 16) zer_length).symm
 | k+1=>by
   rw [msum,msum,msum,msum_xor c d a ha k]
   cases c k<;>cases d k<;>simp only [Bool.xor_false,Bool.xor_true,Bool.not_true,Bool.not_false,if_true,if_false,Bool.false_eq_true]
   · rw [both_assoc]
   · rw [both_assoc,both_comm (msum d a k),←both_assoc]
   · rw [both_four,both_self,both_zero _ (bothL_length _ _)]
theorem msum_none(c:Nat→Bool)(a:List Byte)(n:Nat)(h:∀i,n≤i→c i=false):∀k,msum c a (n+k)=msum c a n
 |0=>rfl
 |k+1=>by rw [←Nat.add_assoc,msum,h _ (by omega),if_neg (by decide),msum_none c a n h k]
theorem msum_none'(c:Nat→Bool)(a:List Byte){n m:Nat}(hm:n≤m)(h:∀i,n≤i→i<m→c i=false):msum c a m=msum c a n:=by
 have e:msum c a m=msum (fun i=>c i&&decide (i<n)) a m:=msum_congr a m fun i hi=>by
   by_cases hn:i<n
   · simp [hn]
   · simp [hn,h i (by omega) hi]
 rw [e,show m=n+(m-n)from by omega,msum_none _ _ _ (fun i hi=>by simp;omega)]
 exact msum_congr a n fun i hi=>by simp [hi]
theorem msum_dblN(c:Nat→Bool)(a:List Byte)(m:Nat):∀k,msum c (dblN a m) k=dblN (msum c a k) m
 |0=>by rw [msum,msum,dblN_zer]
 | k +1=>by
   have ih:=msum_dblN c a m k
   by_cases h:c k=true
   · simp only [msum,if_pos h]
     rw [ih,dblN_both,←dblN_add,←dblN_add,Nat.add_comm]
   · simp only [msum,if_neg h]
     exact ih
theorem msum_shift(c:Nat→Bool)(a:List Byte):∀k,msum (fun i=>decide (i≠0)&&c (i-1)) a (k+1)=dblL (msum c a k)
 |0=>by rw [msum,msum,msum];simp [dbl_zer]
 | k+1=>by
   have ih:=msum_shift c a k
   have e:(decide (k+1≠0)&&c (k+1-1))=c k:=by simp
   rw [msum,e,ih]
   by_cases h:c k=true
   · rw [if_pos h,msum,if_pos h,dbl_both];rfl
   · rw [if_neg h,msum,if_neg h]
def oneL:List Byte:=tab 16 fun i=>if i=15 then 1#8 else 0#8
theorem oneL_length:oneL.length=16:=tab_length
theorem bit_one(j:Nat)(hj:j<128):bitA oneL j=decide (j=0):=by
 unfold bitA
 rw [oneL,nth_tab (by omega)]
 by_cases h:j<8
 · rw [if_pos (by omega),show j%8=j from by omega,BitVec.getLsbD_one];simp
 · rw [if_neg (by omega)];simp;omega
theorem bit_oneN:∀k,k<128→∀j,j<128→bitA (dblN oneL k) j=decide (j=k)
 |0,_,j,hj=>bit_one j hj
 | k +1,hk,j,hj=>by
   rw [dblN,bit_dbl _ _ hj,bit_oneN k (by omega) 127 (by omega),decide_eq_false (show¬127=k by omega)]
   rcases Nat.eq_zero_or_pos j with rfl|h
   · simp
   · rw [bit_oneN k (by omega) (j-1) (by omega)]
     by_cases e:j=k+1
     · subst e;simp
     · rw [decide_eq_false e,decide_eq_false (show¬j-1=k by omega)];simp
theorem bit_msum(c:Nat→Bool):∀k,k≤128→∀j,j<128→bitA (msum c oneL k) j=(decide (j<k)&&c j)
 |0,_,j,_=>by rw [msum,bit_zer];simp
 | k + 1,hk,j,hj=>by
   rw [msum]
   by_cases hc:c k=true
   · rw [if_pos hc,bit_both,bit_msum c k (by omega) j hj,bit_oneN k (by omega) j hj]
     rcases Nat.lt_trichotomy j k with h|h|h
     · simp [h,show j<k+1 by omega,show j≠k by omega]
     · subst h;simp [hc]
     · simp [show¬j<k by omega,show¬j<k+1 by omega,show j≠k by omega]
   · rw [if_neg hc,bit_msum c k (by omega) j hj]
     by_cases h:j=k
     · subst h;simp [hc]
     · by_cases h2:j<k
       · simp [h2,show j<k+1 by omega]
       · simp [h2,show¬j<k+1 by omega]
theorem ev_bits(a:List Byte)(h:a.length=16):msum (bitA a) oneL 128=a:=bits_ext (msum_length _ _ _) h fun i hi=>by rw [bit_msum _ 128 (Nat.le_refl _) i hi];simp [hi]
def topL:List Byte:=msum spec oneL 128
theorem topL_length:topL.length=16:=msum_length _ _ _
theorem one_128:dblN oneL 128=topL:=bits_ext (dblN_length _ oneL_length _) topL_length fun i hi=>by
 rw [topL,bit_msum _ 128 (Nat.le_refl _) i hi,show(128:Nat)=127+1 from rfl,dblN,bit_dbl _ _ hi,bit_oneN 127 (by omega) 127 (by omega),bit_oneN 127 (by omega) (i-1) (by omega),decide_eq_false (show¬i-1=127 by omega)]
 simp [hi]
theorem dbl_128(a:List Byte)(h:a.length=16):dblN a 128=msum spec a 128:=by
 have e:dblN (msum (bitA a) oneL 128) 128=msum spec (msum (bitA a) oneL 128) 128:=by
   have swap:∀k n,msum spec (msum (bitA a) oneL n) k=msum (bitA a) (msum spec oneL k) n:=by
     intro k n
     induction k with
     | zero=>
       rw [msum,msum]
       induction n with
       |zero=>rfl
       |succ n ih=>rw [msum,dblN_zer,both_zero _ (msum_length _ _ _),ite_self];exact ih
     | succ k ih=>
       rw [msum,msum,ih]
       by_cases h:spec k=true
       · rw [if_pos h,if_pos h,msum_both,msum_dblN]
       · rw [if_neg h,if_neg h]
   rw [swap,←msum_dblN,one_128,topL]
 rwa [ev_bits a h]at e
def prodL(a b:List Byte):List Byte:=msum (bitA b) a 128
theorem prodL_length(a b:List Byte):(prodL a b).length=16:=msum_length _ _ _
theorem prod_dbl(a b:List Byte)(ha:a.length=16):prodL a (dblL b)=dblL (prodL a b):=by
 have e1:prodL a (dblL b)=msum (fun i=>(decide (i≠0)&&bitA b (i-1))^^(bitA b 127&&spec i)) a 128:=msum_congr a 128 fun i hi=>bit_dbl b i hi
 have e2:msum (bitA b) a (127+1)=if bitA b 127=true then bothL (msum (bitA b) a 127) (dblN a 127)else msum (bitA b) a 127:=by rw [msum]
 have e3:=dbl_128 a ha
 rw [show(128:Nat)=127+1 from rfl,dblN]at e3
 rw [e1,msum_xor _ _ _ ha,prodL,show(128:Nat)=127+1 from rfl,msum_shift (bitA b) a 127,e2]
 by_cases h:bitA b 127=true
 · rw [if_pos h,h,dbl_both]
   congr 1
   simp only [Bool.true_and]
   exact e3.symm
 · have h':bitA b 127=false:=by cases hb:bitA b 127<;>simp_all
   rw [if_neg h,h']
   simp only [Bool.false_and]
   rw [show msum (fun _=>false) a (127+1)=zer 16 from msum_none' _ a (Nat.zero_le _) fun _ _ _=>rfl,both_zero _ (dblL_length _)]
theorem prod_one(a:List Byte)(ha:a.length=16):prodL a oneL=a:=by
 rw [prodL,show msum (bitA oneL) a 128=msum (bitA oneL) a 1 from msum_none' _ a (by omega) fun i h1 h2=>by rw [bit_one i h2];simp;omega,msum,msum,bit_one 0 (by omega)]
 simp [dblN,zero_both a ha]
theorem prod_pow(a:List Byte)(ha:a.length=16):∀m,prodL a (dblN oneL m)=dblN a m
 |0=>prod_one a ha
 |m+1=>by rw [dblN,prod_dbl _ _ ha,prod_pow a ha m];rfl
def mulL(n:BitVec 64)(a:List Byte):List Byte:=msum n.getLsbD a 64
theorem mulL_length(n:BitVec 64)(a:List Byte):(mulL n a).length=16:=msum_length _ _ _
theorem mul_zero(a:List Byte):mulL 0#64 a=zer 16:=by
 rw [mulL,msum_none' (n:=0) _ a (Nat.zero_le _) fun i _ _=>by simp];rfl
theorem mul_end(n:BitVec 64)(a:List Byte)(k:Nat)(hk:k≤64)(h:n>>>k=0#64):msum n.getLsbD a k=mulL n a:=by
 rw [mulL,msum_none' _ a hk]
 intro i h1 h2
 have:=congrArg (fun z=>z.getLsbD (i-k)) h
 simp only [BitVec.getLsbD_ushiftRight]at this
 rw [show k+(i-k)=i from by omega]at this
 simpa using this
def bb(c:Bool):Byte:=if c=true then 1#8 else 0#8
def pc(p:List Byte)(i:Nat):Bool:=(nth p i).getLsbD 0
def isP(p:List Byte):Prop:=p.length=256∧∀i,nth p i=bb (pc p i)
def evP(l:List Byte):List Byte:=msum (pc l) oneL 256
def cmK(p out:List Byte)(i:Nat):Nat→List Byte
 |0=>out
 |k+1=>setN (cmK p out i k) (i+k) (nth (cmK p out i k) (i+k)^^^nth p k)
def cmI(p q:List Byte):Nat→List Byte
 |0=>zer 256
 |i+1=>if nth q i=0#8 then cmI p q i else cmK p (cmI p q i) i 128
def put1(l:List Byte)(i:Nat):List Byte:=setN l i (nth l i^^^1#8)
def rd1(l:List Byte)(i a b c:Nat):List Byte:=
 if nth l i=1#8 then put1 (put1 (put1 (put1 (setN l i 0#8) (i-128+a)) (i-128+b)) (i-128+c)) (i-128)else l
def rdF(l:List Byte)(a b c:Nat):Nat→List Byte
 |0=>l
 |j+1=>rd1 (rdF l a b c j) (254-j) a b c
def restL(p q:List Byte)(a b c:Nat):List Byte:=rdF (cmI p q 128) a b c 127
def hiF(p:List Byte):Nat→List Byte
 |0=>zer 16
 |k+1=>setN (hiF p k) (15-k/8) (nth (hiF p k) (15-k/8)+(nth p k<<<(k%8)))
def highF(a:List Byte)(k:Nat):Byte:=(nth a (15-k/8)>>>(k%8))%2#8
def highL(a:List Byte):List Byte:=part 256 128 (highF a) fun _=>0
def numF(n:BitVec 64)(k:Nat):Byte:=((n>>>k)%2#64).setWidth 8
def numL(n:BitVec 64):List Byte:=part 256 64 (numF n) fun _=>0
open Go Go.RowKit
set_option maxRecDepth 100000
theorem ring_double(a:List Byte)(ha:a.length=16)(w0:World):Gives Tryz.prog 143 #[A8 a] w0 (A8 (dblL a)):=by
 unfold Gives
 have hm:=Own.start w0
 have ha1:=Nat.le_of_eq ha
 have ha2:=Nat.le_of_eq ha.symm
 have E15:=hid (show(nth a 15<<<1)^^^((nth a 0>>>7)*135#8)=dblF a 15 by rw [dblF,if_neg (by omega)])
 have EF:=hid (fun k (h:k<15)=>show(nth a k<<<1)|||(nth a (k+1)>>>7)=dblF a k by rw [dblF,if_pos h])
 have ED:=hid (show part 16 16 (dblF a) (fun _=>0)=dblL a from part_all)
 clear ha
 go_enter Tryz.func143,Tryz.ntmps143
 go_wp2_with (first|((first|((with_reducible show qAl);first|(refine zG hm ?_))|((with_reducible show qBx);first|(refine zH hm ?_)));clear hm;(first|(have hx_:=g1;clear hx_;(first|(have hx_:=g2;clear hx_;(first|(have hx_:=g3;clear hx_;intro gx_)|intro g3))|intro g2))|intro g1);intro w hm))
 go_loopw [5] (fun i wr=>∃k:Nat,k≤15∧i= .int .i64 k∧Own w0 wr [⟨g3,132,(part 16 k (dblF a) fun _=>0).map v8⟩,⟨g2,132,(zer 16).map v8⟩,⟨g1,132,a.map v8⟩]) (fun i _=>15-(intOf i).toNat)
 case atStart=>exact⟨0,by omega,rfl,by rw [←zer_start];exact hm⟩
 case round =>
   obtain⟨k,hk,rfl,hm⟩:=hrel
   by_cases hlt:k<15
   · have hd:decide ((k:Int)<15)=true:=decide_eq_true (by omega)
     have h1:(k:Int)<16:=by omega
     have h2:(k:Int)+1<16:=by omega
     have h3:0≤(k:Int)+1:=by omega
     have h4:((k:Int)+1).toNat=k+1:=by omega
     have EK:=hid (EF.out k hlt)
     go_wp2_with fail
     refine rgE 12 31 ?_
     simp only [tSC,tZe,dSC,dZe,mCo,mNi]
     repeat (first
         | (apply walk_is rfl rfl rfl
            · (intro wx hwx;first|((with_reducible show qGl);first|(exact zJ (hm.ext hwx)))|(go_simp;(try go_bits);first|exact gives_same|exact gives_skip))
            · (simp only [Act.put,sIB,sCS,sCZ];rfl))
         | (apply walk_not rfl rfl rfl
            · (simp only [Act.put,sIB,sCS,sCZ];rfl)))
     intro wz hwz
     simp only [zCC,zNR]
     repeat (first|rw [fin_is]|(rw [fin_cons];intro _ _))
     rw [fin_nil]
     try (replace hm:=hm.ext hwz)
     simp only [Act.put,sIB,sCS,sCZ]
     go_wp2_with (first|((((with_reducible show qSt);first|(refine zD hm ?_)));clear hm;intro w hm))
     go_roundw
     case rel=>
       rw [part_set' (show k<16 by omega) EK.out]at hm
       exact⟨k+1,by omega,by go_num,hm⟩
     case measure=>simp [intOf]<;>omega
   · obtain rfl:k=15:=by omega
     have hd:decide (((15:Nat):Int)<15)=false:=decide_eq_false (by omega)
     have l15:(part 16 15 (dblF a) fun _=>0).length=16:=part_length
     go_wp2_with (first|((with_reducible show qLd);first|(refine zA hm ?_)|(refine zB hm ?_))|((((with_reducible show qSt);first|(refine zD hm ?_)|(refine zE hm ?_)));clear hm;intro w hm))
     rw [part_set' (show 15<16 by omega) E15.out,ED.out]at hm
     have l1:(dblL a).length=16:=dblL_length a
     generalize dblL a=D at*
     go_wp2_with fail
     refine rtO hm rfl rfl ⟨rfl,hm.x⟩
theorem ring_sum(a b:List Byte)(c:Bool)(ha:a.length=16)(hb:b.length=16)(w0:World):Gives Tryz.prog 142 #[A8 a,A8 b, .bool c] w0 (A8 (if c=true then bothL a b else a)):=by
 unfold Gives
 have hm:=Own.start w0
 cases c with
 | false=>
   rw [if_neg (by decide)]
   have ha1:=Nat.le_of_eq ha
   have ha2:=Nat.le_of_eq ha.symm
   go_enter Tryz.func142,Tryz.ntmps142
   go_wp2_with (first|((with_reducible show qLd);first|(refine zB hm ?_))|((((with_reducible show qSt);first|(refine zE hm ?_)));clear hm;intro w hm)|((first|((with_reducible show qAl);first|(refine zG hm ?_))|((with_reducible show qBx);first|(refine zH hm ?_)));clear hm;(first|(have hx_:=g1;clear hx_;(first|(have hx_:=g2;clear hx_;intro gx_)|intro g2))|intro g1);intro w hm))
   refine rtO hm rfl rfl ⟨rfl,hm.x⟩
 | true=>
   rw [if_pos rfl]
   have C1:=hid fun (w wx:World)(p q:Option Addr)(h1:RdB wx p a)(h2:RdB wx q b)=>by
     have h:=xor_any a b p q 16 16 wx h1 h2 (by omega) (by omega)
     rw [ha,hb]at h;exact h
   have lX:(xorL a b).length=16:=by rw [xorL_length,ha,hb];rfl
   have eX:blk (xorL a b)=bothL a b:=by
     refine nth_ext (by rw [blk_length,bothL_length]) fun i hi=> ?_
     rw [blk_length]at hi
     rw [bothL_nth _ _ _ hi]
     have h1:nth (blk (xorL a b)) i=nth (xorL a b) i:=by
       rw [show nth (xorL a b) i=gb (xorL a b) i from(gb_in _ i).symm];simp [nth,blk,hi]
     rw [h1]
     exact xorL_getD a b i (by rw [lX];exact hi)
   have C2:=hid fun (wx:World)(p:Option Addr)(c:Nat)(h:RdB wx p (xorL a b))=>eX ▸ oblock_any (xorL a b) p c wx h
   have lZ:(bothL a b).length=16:=bothL_length _ _
   generalize bothL a b=Z at*
   generalize xorL a b=X at*
   have ha1:=Nat.le_of_eq ha
   have ha2:=Nat.le_of_eq ha.symm
   have hb1:=Nat.le_of_eq hb
   have hb2:=Nat.le_of_eq hb.symm
   clear lX eX
   go_enter Tryz.func142,Tryz.ntmps142
   go_wp2_with (first|((first|((with_reducible show qAl);first|(refine zG hm ?_))|((with_reducible show qBx);first|(refine zH hm ?_)));clear hm;(first|(have hx_:=g1;clear hx_;(first|(have hx_:=g2;clear hx_;intro gx_)|intro g2))|intro g1);intro w hm))
   have c1:=fun wx (hwx:Ext _ wx)=>C1.out wx wx _ _ ((hm.ext hwx).rdB (g:=g1) (l:=a) (by repeat (first|exact Has.hd|assumption|apply Has.tl))) ((hm.ext hwx).rdB (g:=g2) (l:=b) (by repeat (first|exact Has.hd|assumption|apply Has.tl)))
   refine rgE 4 14 ?_
   simp only [tSC,tZe,dSC,dZe,mCo,mNi]
   repeat (first
       | (apply walk_some (BytesS X) 12 (BytesS.stable _) rfl rfl rfl rfl
          · (intro wx hwx;go_simp;with_reducible exact gives_callR (c1 wx hwx)))
       | (apply walk_from (T:=[(12,BytesS X)]) rfl rfl
          · (intro wx hwx;simp only [withS];(rintro x ⟨p,c,rfl,hlc,hb'⟩);refine⟨rfl, ?_⟩;go_simp;with_reducible exact gives_call (C2.out wx p c hb'))
          · (simp only [Act.put,sIB,sCS,sCZ];rfl))
       | (apply walk_is rfl rfl rfl
          · (intro wx hwx;go_simp;(try go_bits);first|exact gives_same|exact gives_skip)
          · (simp only [Act.put,sIB,sCS,sCZ];rfl))
       | (apply walk_not rfl rfl rfl
          · (simp only [Act.put,sIB,sCS,sCZ];rfl)))
   intro wz hwz
   simp only [zCC,zNR]
   repeat (first|rw [fin_is]|(rw [fin_cons];intro _ _))
   rw [fin_nil]
   try (replace hm:=hm.ext hwz)
   simp only [Act.put,sIB,sCS,sCZ]
   clear c1
   go_wp2_with (first|((((with_reducible show qSt);first|(refine zE hm ?_)));clear hm;intro w hm))
   refine rtO hm rfl rfl ⟨rfl,hm.x⟩
theorem shr_one(n:BitVec 64)(k:Nat):(n>>>k)>>>1=n>>>(k+1):=by rw [BitVec.shiftRight_add]
theorem and_one(n:BitVec 64)(k:Nat):((n>>>k)&&&1#64==1#64)=n.getLsbD k:=by
 have h:(n>>>k)&&&1#64=if n.getLsbD k=true then 1#64 else 0#64:=by
   apply BitVec.eq_of_getLsbD_eq
   intro i hi
   rw [BitVec.getLsbD_and,BitVec.getLsbD_ushiftRight,BitVec.getLsbD_one]
   rcases Nat.eq_zero_or_pos i with rfl|h0
   · cases h:n.getLsbD k<;>simp [h]
   · have:i≠0:=by omega
     cases h:n.getLsbD k<;>simp [this,BitVec.getLsbD_one]
 rw [h];cases n.getLsbD k<;>rfl
theorem shr_less(n:BitVec 64)(h:n≠0#64):(n>>>1).toNat<n.toNat:=by
 have h0:n.toNat≠0:=fun e=>h (BitVec.eq_of_toNat_eq (by simpa using e))
 rw [BitVec.toNat_ushiftRight,Nat.shiftRight_eq_div_pow];omega
theorem shr_64(n:BitVec 64)(k:Nat)(h:n>>>k≠0#64):k<64:=by
 rcases Nat.lt_or_ge k 64 with h1|h1
 · exact h1
 · exact absurd (BitVec.ushiftRight_eq_zero h1) h
theorem ring_mul(n:BitVec 64)(a:List Byte)(ha:a.length=16)(w0:World):Gives Tryz.prog 128 #[v64 n,A8 a] w0 (A8 (mulL n a)):=by
 unfold Gives
 have hm:=Own.start w0
 have HA:=hid ha
 have ha1:=Nat.le_of_eq ha
 have ha2:=Nat.le_of_eq ha.symm
 clear ha
 go_enter Tryz.func128,Tryz.ntmps128
 go_wp2_with (first|((first|((with_reducible show qAl);first|(refine zG hm ?_))|((with_reducible show qBx);first|(refine zH hm ?_)));clear hm;(first|(have hx_:=g1;clear hx_;(first|(have hx_:=g2;clear hx_;(first|(have hx_:=g3;clear hx_;intro gx_)|intro g3))|intro g2))|intro g1);intro w hm))
 simp only [Act.put,sIB,sCS,sCZ]
 go_loopw [0] (fun v wr=>∃k:Nat,k≤64∧v=v64 (n>>>k)∧Own w0 wr [⟨g3,132,(msum n.getLsbD a k).map v8⟩,⟨g2,132,(zer 16).map v8⟩,⟨g1,132,(dblN a k).map v8⟩]) (fun v _=>(intOf v).toNat)
 case atStart=>exact⟨0,by omega,by simp,hm⟩
 case round=>
   obtain⟨k,hk,rfl,hm⟩:=hrel
   by_cases h0:n>>>k=0#64
   · have E:=hid (mul_end n a k hk h0)
     rw [E.out]at hm
     rw [h0]
     have l1:(mulL n a).length=16:=mulL_length _ _
     clear h0
     go_wp2_with (first|((with_reducible show qLd);first|(refine zB hm ?_))|((((with_reducible show qSt);first|(refine zE hm ?_)));clear hm;intro w hm))
     refine rtO hm rfl rfl ⟨rfl,hm.x⟩
   · have hk1:=shr_64 n k h0
     have HL:=hid (shr_less (n>>>k) h0)
     have hn0:(n>>>k).toNat≠0:=fun e=>h0 (BitVec.eq_of_toNat_eq (by simpa using e))
     have hp:0<(n>>>k).toNat:=by omega
     have hp1:(0:Int)<((n>>>k).toNat:Int):=by omega
     have hp2:decide ((0:Int)<((n>>>k).toNat:Int))=true:=decide_eq_true hp1
     have hp3:decide (((n>>>k).toNat:Int)>0)=true:=decide_eq_true hp1
     have EA:=hid (and_one n k)
     have ES:=hid (show msum n.getLsbD a (k+1)=if n.getLsbD k=true then bothL (msum n.getLsbD a k) (dblN a k)else msum n.getLsbD a k from rfl)
     have ER:=hid (shr_one n k)
     have l1:=msum_length n.getLsbD a k
     have l2:=dblN_length a HA.out k
     have l3:=msum_length n.getLsbD a (k+1)
     have l4:=dblN_length a HA.out (k+1)
     have cs:=fun wx=>ring_sum (msum n.getLsbD a k) (dblN a k) (n.getLsbD k) l1 l2 wx
     rw [←ES.out,←EA.out]at cs
     have CS:=hid cs
     have CD:Hid (∀wx,Gives Tryz.prog 143 #[A8 (dblN a k)] wx (A8 (dblN a (k+1)))):=hid fun wx=>ring_double (dblN a k) l2 wx
     clear cs
     generalize msum n.getLsbD a k=B at*
     generalize dblN a k=A at*
     generalize hB2:msum n.getLsbD a (k+1)=B2 at*
     generalize hA2:dblN a (k+1)=A2 at*
     have HB2:=hid hB2
     have HA2:=hid hA2
     clear hB2 hA2
     generalize hX:n>>>k=X at*
     clear h0 hn0
     go_wp2_with (first|(go_at_call 142;(with_reducible refine(CS.out _).mono ?_);rintro e_ w ⟨rfl,hx_⟩;replace hm:=hm.ext hx_;clear hx_)|(go_at_call 143;(with_reducible refine(CD.out _).mono ?_);rintro e_ w ⟨rfl,hx_⟩;replace hm:=hm.ext hx_;clear hx_)|((with_reducible show qLd);first|(refine zB hm ?_))|((((with_reducible show qSt);first|(refine zE hm ?_)));clear hm;intro w hm))
     go_roundw
     case rel=>exact⟨k+1,by omega,by rw [ER.out],by rw [HB2.out,HA2.out];exact hm⟩
     case measure=>
       show(((X>>>1).toNat:Int)).toNat<((X.toNat:Int)).toNat
       rw [Int.toNat_natCast,Int.toNat_natCast];exact HL.out
theorem and_one8:∀(x:Byte)(r:Fin 8),((x>>>r.val)&&&1#8==1#8)=x.getLsbD r.val:=by decide+kernel
theorem bit_at(b:List Byte)(k q r:Nat)(hq:k/8=q)(hr:k%8=r):((nth b (15-q)>>>r)&&&1#8==1#8)=bitA b k:=by
 subst hq hr
 exact and_one8 _ ⟨k%8,Nat.mod_lt _ (by omega)⟩
theorem ring_prod(a b:List Byte)(ha:a.length=16)(hb:b.length=16)(w0:World):Gives Tryz.prog 150 #[A8 a,A8 b] w0 (A8 (prodL a b)):=by
 unfold Gives
 have hm:=Own.start w0
 have HA:=hid ha
 have ha1:=Nat.le_of_eq ha
 have ha2:=Nat.le_of_eq ha.symm
 have hb1:=Nat.le_of_eq hb
 have hb2:=Nat.le_of_eq hb.symm
 clear ha hb
 go_enter Tryz.func150,Tryz.ntmps150
 go_wp2_with (first|((first|((with_reducible show qAl);first|(refine zG hm ?_))|((with_reducible show qBx);first|(refine zH hm ?_)));clear hm;(first|(have hx_:=g1;clear hx_;(first|(have hx_:=g2;clear hx_;(first|(have hx_:=g3;clear hx_;(first|(have hx_:=g4;clear hx_;intro gx_)|intro g4))|intro g3))|intro g2))|intro g1);intro w hm))
 go_loopw [7] (fun i wr=>∃k:Nat,k≤128∧i= .int .i64 k∧Own w0 wr [⟨g4,132,(msum (bitA b) a k).map v8⟩,⟨g3,132,(zer 16).map v8⟩,⟨g2,132,b.map v8⟩,⟨g1,132,(dblN a k).map v8⟩]) (fun i _=>128-(intOf i).toNat)
 case atStart=>exact⟨0,by omega,rfl,hm⟩
 case round =>
   obtain⟨k,hk,rfl,hm⟩:=hrel
   by_cases hlt:k<128
   · have hd:decide ((k:Int)<128)=true:=decide_eq_true (by omega)
     obtain⟨q,hq,hq4⟩:∃q:Nat,k/8=q∧q<16:=⟨_,rfl,by omega⟩
     obtain⟨r,hr,hr4⟩:∃r:Nat,k%8=r∧r<8:=⟨_,rfl,Nat.mod_lt _ (by omega)⟩
     have a1:(k:Int)%8=(r:Int):=by omega
     have a2:(k:Int).tmod 8=(r:Int):=by rw [Int.tmod_eq_emod_of_nonneg (by omega)];exact a1
     have a3:(k:Int)/8=(q:Int):=by omega
     have a4:(k:Int).tdiv 8=(q:Int):=by rw [Int.tdiv_eq_ediv_of_nonneg (by omega)];exact a3
     have a5:(15:Int)-(q:Int)<16:=by omega
     have a6:0≤(15:Int)-(q:Int):=by omega
     have a7:((15:Int)-(q:Int)).toNat=15-q:=by omega
     have a8:(q:Int)≤15:=by omega
     have EA:=bit_at b k q r hq hr
     have ES:msum (bitA b) a (k+1)=if bitA b k=true then bothL (msum (bitA b) a k) (dblN a k)else msum (bitA b) a k:=rfl
     have l1:=msum_length (bitA b) a k
     have l2:=dblN_length a HA.out k
     have l3:=msum_length (bitA b) a (k+1)
     have l4:=dblN_length a HA.out (k+1)
     have cs:=fun wx=>ring_sum (msum (bitA b) a k) (dblN a k) (bitA b k) l1 l2 wx
     rw [←ES,←EA]at cs
     have CS:=hid cs
     have CD:Hid (∀wx,Gives Tryz.prog 143 #[A8 (dblN a k)] wx (A8 (dblN a (k+1)))):=hid fun wx=>ring_double (dblN a k) l2 wx
     clear cs ES EA hq hr
     generalize msum (bitA b) a k=B at*
     generalize dblN a k=A at*
     generalize hB2:msum (bitA b) a (k+1)=B2 at*
     generalize hA2:dblN a (k+1)=A2 at*
     have HB2:=hid hB2
     have HA2:=hid hA2
     clear hB2 hA2
     go_wp2_with fail
     refine rgE 13 27 ?_
     simp only [tSC,tZe,dSC,dZe,mCo,mNi]
     repeat (first
         | (apply walk_is rfl rfl rfl
            · (intro wx hwx;first|((with_reducible show qGl);first|(exact zJ (hm.ext hwx))|(exact zK (hm.ext hwx)))|(go_simp;(try go_bits);first|exact gives_same|exact gives_skip|with_reducible exact gives_call (CS.out wx)))
            · (simp only [Act.put,sIB,sCS,sCZ];rfl))
         | (apply walk_not rfl rfl rfl
            · (simp only [Act.put,sIB,sCS,sCZ];rfl)))
     intro wz hwz
     simp only [zCC,zNR]
     repeat (first|rw [fin_is]|(rw [fin_cons];intro _ _))
     rw [fin_nil]
     try (replace hm:=hm.ext hwz)
     simp only [Act.put,sIB,sCS,sCZ]
     go_wp2_with (first|(go_at_call 143;(with_reducible refine(CD.out _).mono ?_);rintro e_ w ⟨rfl,hx_⟩;replace hm:=hm.ext hx_;clear hx_)|((with_reducible show qLd);first|(refine zB hm ?_))|((((with_reducible show qSt);first|(refine zE hm ?_)));clear hm;intro w hm))
     go_roundw
     case rel=>exact⟨k+1,by omega,by go_num,by rw [HB2.out,HA2.out];exact hm⟩
     case measure=>simp [intOf]<;>omega
   · obtain rfl:k=128:=by omega
     have hd:decide (((128:Nat):Int)<128)=false:=decide_eq_false (by omega)
     rw [show msum (bitA b) a 128=prodL a b from rfl]at hm
     have l1:=prodL_length a b
     go_wp2_with (first|((with_reducible show qLd);first|(refine zB hm ?_))|((((with_reducible show qSt);first|(refine zE hm ?_)));clear hm;intro w hm))
     refine rtO hm rfl rfl ⟨rfl,hm.x⟩
def byL:List Byte:=[0#8,0#8,0#8,0#8,0#8,0#8,0#8,0#8,0#8,0#8,0#8,0#8,0#8,0#8,0#8,135#8]
theorem byL_top:byL=dblN oneL 128:=by
 rw [one_128]
 refine bits_ext rfl topL_length fun i hi=> ?_
 rw [topL,bit_msum _ 128 (Nat.le_refl _) i hi,decide_eq_true hi,Bool.true_and]
 have h:∀i:Fin 128,bitA byL i.val=spec i.val:=by decide+kernel
 exact h ⟨i,hi⟩
theorem build_by(w:World):(Instr.build 132 #[(15, .int .u8 135)]).run Tryz.prog w= .ok (A8 byL) w:=by kernel_rfl
theorem pow_step(q j:Nat):q%2^(j+1)=if (q/2^j)%2=1 then q%2^j+2^j else q%2^j:=by
 rw [Nat.pow_succ,Nat.mod_mul]
 split
 · next h=>rw [h];omega
 · next h=>
   have:q/2^j%2=0:=by omega
   rw [this];omega
def RzF(a:List Byte)(r q N:Nat)(A B:List Byte):Prop:=∃j,N=q/2^j∧A=dblN a (r+128*(q%2^j))∧B=dblN oneL (128*2^j)
section
variable {a:List Byte} {r q N:Nat} {A B:List Byte}
theorem RzF.start(a:List Byte)(r q:Nat):RzF a r q q (dblN a r) byL:=⟨0,by simp,by simp [Nat.mod_one],by rw [byL_top]⟩
theorem RzF.lenA(h:RzF a r q N A B)(ha:a.length=16):A.length=16:=by obtain⟨j,_,rfl,_⟩:=h;exact dblN_length a ha _
theorem RzF.lenB(h:RzF a r q N A B):B.length=16:=by obtain⟨j,_,_,rfl⟩:=h;exact dblN_length oneL oneL_length _
theorem RzF.done(h:RzF a r q 0 A B):A=dblN a (r+128*q):=by
 obtain⟨j,h0,rfl,_⟩:=h
 have:=Nat.div_add_mod q (2^j)
 rw [←h0,Nat.mul_zero,Nat.zero_add]at this
 rw [this]
theorem RzF.sq(h:RzF a r q N A B):∃j,N=q/2^j∧A=dblN a (r+128*(q%2^j))∧B=dblN oneL (128*2^j)∧prodL B B=dblN oneL (128*2^(j+1))∧N/2=q/2^(j+1):=by
 obtain⟨j,rfl,rfl,rfl⟩:=h
 refine⟨j,rfl,rfl,rfl, ?_, ?_⟩
 · rw [prod_pow _ (dblN_length oneL oneL_length _),←dblN_add,Nat.pow_succ];congr 1;omega
 · rw [Nat.pow_succ,Nat.div_div_eq_div_mul]
theorem RzF.odd(h:RzF a r q N A B)(ha:a.length=16)(h1:N%2=1):RzF a r q (N/2) (prodL A B) (prodL B B):=by
 have lA:=h.lenA ha
 obtain⟨j,rfl,hA,hB,e1,e2⟩:=h.sq
 refine⟨j+1,e2, ?_,e1⟩
 rw [hB,prod_pow _ lA,hA,←dblN_add,pow_step,if_pos h1];congr 1;omega
theorem RzF.even(h:RzF a r q N A B)(h1:¬N%2=1):RzF a r q (N/2) A (prodL B B):=by
 obtain⟨j,rfl,hA,hB,e1,e2⟩:=h.sq
 refine⟨j+1,e2, ?_,e1⟩
 rw [hA,pow_step,if_neg h1]
theorem RzF.le(h:RzF a r q N A B):N≤q:=by obtain⟨j,rfl,_⟩:=h;exact Nat.div_le_self _ _
end
theorem ring_raised(n:Nat)(a:List Byte)(ha:a.length=16)(hn:n≤9223372036854775807)(w0:World):Gives Tryz.prog 141 #[.int .i64 n,A8 a] w0 (A8 (dblN a n)):=by
 unfold Gives
 have hm:=Own.start w0
 have HA:=hid ha
 have ha1:=Nat.le_of_eq ha
 have ha2:=Nat.le_of_eq ha.symm
 clear ha
 have n0:decide ((n:Int)<0)=false:=decide_eq_false (by omega)
 have n1:¬(n:Int)<0:=by omega
 obtain⟨r,hr,hr8⟩:∃r:Nat,n%128=r∧r<128:=⟨_,rfl,Nat.mod_lt _ (by omega)⟩
 obtain⟨q,hq,hq8⟩:∃q:Nat,n/128=q∧q≤72057594037927935:=⟨_,rfl,by omega⟩
 have a1:(n:Int)%128=(r:Int):=by omega
 have a2:(n:Int).tmod 128=(r:Int):=by rw [Int.tmod_eq_emod_of_nonneg (by omega)];exact a1
 have a3:(n:Int)/128=(q:Int):=by omega
 have a4:(n:Int).tdiv 128=(q:Int):=by rw [Int.tdiv_eq_ediv_of_nonneg (by omega)];exact a3
 have hnq:n=r+128*q:=by omega
 have HN:=hid hnq
 clear hr hq hnq
 go_enter Tryz.func141,Tryz.ntmps141
 go_wp2_with (first|((first|((with_reducible show qAl);first|(refine zG hm ?_))|((with_reducible show qBx);first|(refine zH hm ?_)));clear hm;(first|(have hx_:=g1;clear hx_;(first|(have hx_:=g2;clear hx_;intro gx_)|intro g2))|intro g1);intro w hm))
 refine wp_scope_goto 0 (fun a_ w_=>∃(N:Nat)(gq:Nat)(A B:List Byte)(u1 u2 u6 u7 u8 u9 u10 u11 u12 u13 u14 u15 u16 u17 u18 u19 u20 u21 u22 u23 u24 u25 u26 u27 u28 u29 u30 u31 u32:Value),a_={tmps:= #[(.int .i64 (N:Int)),u1,u2,(.pointer (some ⟨g1,0,none⟩)),(.pointer (some ⟨g2,0,none⟩)),(.pointer (some ⟨gq,0,none⟩)),u6,u7,u8,u9,u10,u11,u12,u13,u14,u15,u16,u17,u18,u19,u20,u21,u22,u23,u24,u25,u26,u27,u28,u29,u30,u31,u32],defers:=[]}∧RzF a r q N A B∧Own w0 w_ [⟨gq,132,B.map v8⟩,⟨g2,132,(zer 16).map v8⟩,⟨g1,132,A.map v8⟩]) (fun a_ _=>(intOf (a_.tmps.getD 0 undef)).toNat) rfl ?_ ?_
 · clear hm
   rintro a' w ⟨N,gq,A,B,u1,u2,u6,u7,u8,u9,u10,u11,u12,u13,u14,u15,u16,u17,u18,u19,u20,u21,u22,u23,u24,u25,u26,u27,u28,u29,u30,u31,u32,rfl,⟨hf,hm⟩⟩
   have HF:=hid hf
   have lA:=hf.lenA HA.out
   have lB:=hf.lenB
   have hNq:=hf.le
   clear hf
   cases N with
   | zero=>
     have e:=HF.out.done
     rw [←HN.out]at e
     subst e
     go_wp2_with (first|((with_reducible show qLd);first|(refine zB hm ?_))|((((with_reducible show qSt);first|(refine zE hm ?_)));clear hm;intro w hm))
     simp only [Exit.jump]
     refine rtO hm rfl rfl ⟨rfl,hm.x⟩
   | succ N=>
     have hne:(((N+1:Nat):Int)==0)=false:=by simp;omega
     generalize hN:N+1=N' at*
     have HL:Hid (N'/2<N'):=hid (by omega)
     have hNm:N'≤9223372036854775807:=by omega
     have CB:=hid fun wx=>ring_prod B B lB lB wx
     have lB2:=prodL_length B B
     clear hN
     by_cases hodd:N'%2=1
     · have HR:=hid (HF.out.odd HA.out hodd)
       have hbits:bits .and .i64 (N':Int) 1=1:=by rw [bits_and1,hodd];rfl
       have CA:=hid fun wx=>ring_prod A B lA lB wx
       have lA2:=prodL_length A B
       generalize prodL A B=A2 at*
       generalize prodL B B=B2 at*
       clear hodd
       go_wp2_with (first|(go_at_call 150;(with_reducible refine(CA.out _).mono ?_);clear CA;rintro e_ w ⟨rfl,hx_⟩;replace hm:=hm.ext hx_;clear hx_)|(go_at_call 150;(with_reducible refine(CB.out _).mono ?_);rintro e_ w ⟨rfl,hx_⟩;replace hm:=hm.ext hx_;clear hx_)|((with_reducible show qLd);first|(refine zB hm ?_))|((((with_reducible show qSt);first|(refine zE hm ?_)));clear hm;intro w hm))
       go_step3
       exact⟨rfl,⟨_,_,_,_,_,_,_,_,_,_,_,_,_,_,_,_,_,_,_,_,_,_,_,_,_,_,_,_,_,_,_,_,_,rfl,⟨HR.out,hm⟩⟩,by have hq:=HL.out;first|(simpa [intOf]using hq)|(simp [intOf];omega)⟩
     · have HR:=hid (HF.out.even hodd)
       have hev:N'%2=0:=by omega
       have hbits:bits .and .i64 (N':Int) 1=0:=by rw [bits_and1,hev];rfl
       generalize prodL B B=B2 at*
       clear hodd
       go_wp2_with (first|(go_at_call 150;(with_reducible refine(CB.out _).mono ?_);rintro e_ w ⟨rfl,hx_⟩;replace hm:=hm.ext hx_;clear hx_)|((with_reducible show qLd);first|(refine zB hm ?_))|((((with_reducible show qSt);first|(refine zE hm ?_)));clear hm;intro w hm))
       go_step3
       exact⟨rfl,⟨_,_,_,_,_,_,_,_,_,_,_,_,_,_,_,_,_,_,_,_,_,_,_,_,_,_,_,_,_,_,_,_,_,rfl,⟨HR.out,hm⟩⟩,by have hq:=HL.out;first|(simpa [intOf]using hq)|(simp [intOf];omega)⟩
 · intro hp
   go_wp2_with fail
   go_loopw [11] (fun i wr=>∃k:Nat,k≤r∧i= .int .i64 k∧Own w0 wr [⟨g2,132,(zer 16).map v8⟩,⟨g1,132,(dblN a k).map v8⟩]) (fun i _=>r-(intOf i).toNat)
   case atStart=>exact⟨0,by omega,rfl,hm⟩
   case round=>
     obtain⟨k,hk,rfl,hm⟩:=hrel
     by_cases hlt:k<r
     · have hd:decide ((k:Int)<(r:Int))=true:=decide_eq_true (by omega)
       have l2:=dblN_length a HA.out k
       have l4:=dblN_length a HA.out (k+1)
       have CD:Hid (∀wx,Gives Tryz.prog 143 #[A8 (dblN a k)] wx (A8 (dblN a (k+1)))):=hid fun wx=>ring_double (dblN a k) l2 wx
       generalize dblN a k=A at*
       generalize hA2:dblN a (k+1)=A2 at*
       have HA2:=hid hA2
       clear hA2
       go_wp2_with (first|(go_at_call 143;(with_reducible refine(CD.out _).mono ?_);rintro e_ w ⟨rfl,hx_⟩;replace hm:=hm.ext hx_;clear hx_)|((with_reducible show qLd);first|(refine zB hm ?_))|((((with_reducible show qSt);first|(refine zE hm ?_)));clear hm;intro w hm))
       go_roundw
       case rel=>exact⟨k+1,by omega,by go_num,by rw [HA2.out];exact hm⟩
       case measure=>simp [intOf]<;>omega
     · obtain rfl:k=r:=by omega
       have hd:decide ((k:Int)<(k:Int))=false:=decide_eq_false (by omega)
       have RS:=hid (RzF.start a k q)
       have lK:=dblN_length a HA.out k
       have lY:byL.length=16:=rfl
       have BY:=hid build_by
       generalize byL=Y at*
       generalize dblN a k=D0 at*
       go_wp2_with (first|((with_reducible apply wq_build1 BY.out);exact rfl;exact rfl)|((((with_reducible show qSt);first|(refine zE hm ?_)));clear hm;intro w hm)|((first|((with_reducible show qAl);first|(refine zG hm ?_)));clear hm;(first|(have hx_:=g1;clear hx_;(first|(have hx_:=g2;clear hx_;intro gx_)|intro g2))|intro g1);intro w hm))
       go_step3
       rename_i hK
       exact hK _ _ (hp _ _ ⟨_,_,_,_,_,_,_,_,_,_,_,_,_,_,_,_,_,_,_,_,_,_,_,_,_,_,_,_,_,_,_,_,_,rfl,⟨RS.out,hm⟩⟩)
def plus4(a b:List Byte):List Byte:=tab 4 fun i=>nth a i^^^nth b i
theorem plus4_length(a b:List Byte):(plus4 a b).length=4:=tab_length
def boxW(a:List Byte):List Byte:=tab 4 fun i=>bxTo (nth a i)
theorem boxW_length(a:List Byte):(boxW a).length=4:=tab_length
theorem aplus_any(a b:List Byte)(ha:a.length=4)(hb:b.length=4)(w0:World):Gives Tryz.prog 86 #[A8 a,A8 b] w0 (A8 (plus4 a b)):=by
 unfold Gives
 have hm:=Own.start w0
 have ha1:=Nat.le_of_eq ha
 have ha2:=Nat.le_of_eq ha.symm
 have hb1:=Nat.le_of_eq hb
 have hb2:=Nat.le_of_eq hb.symm
 have Ha:=hid ha
 clear ha hb
 go_enter Tryz.func86,Tryz.ntmps86
 go_wp2_with (first|((first|((with_reducible show qAl);first|(refine zG hm ?_))|((with_reducible show qBx);first|(refine zH hm ?_)));clear hm;(first|(have hx_:=g1;clear hx_;(first|(have hx_:=g2;clear hx_;(first|(have hx_:=g3;clear hx_;intro gx_)|intro g3))|intro g2))|intro g1);intro w hm))
 rw [part_start (f:=fun i=>nth a i^^^nth b i) Ha.out]at hm
 go_loopw [6] (fun i wr=>∃k:Nat,k≤4∧i= .int .i64 k∧Own w0 wr [⟨g3,156,(zer 4).map v8⟩,⟨g2,156,b.map v8⟩,⟨g1,156,(part 4 k (fun i=>nth a i^^^nth b i) (nth a)).map v8⟩]) (fun i _=>4-(intOf i).toNat)
 case atStart=>exact⟨0,by omega,rfl,hm⟩
 case round =>
   obtain⟨k,hk,rfl,hm⟩:=hrel
   by_cases hlt:k<4
   · have e1:nth (part 4 k (fun i=>nth a i^^^nth b i) (nth a)) k=nth a k:=nth_part_ge hlt (Nat.le_refl _)
     go_wp2_with fail
     refine rgE 8 19 ?_
     simp only [tSC,tZe,dSC,dZe,mCo,mNi]
     repeat (first
         | (apply walk_is rfl rfl rfl
            · (intro wx hwx;first|((with_reducible show qGl);first|(exact zJ (hm.ext hwx)))|(go_simp;(try go_bits);first|exact gives_same|exact gives_skip))
            · (simp only [Act.put,sIB,sCS,sCZ];rfl))
         | (apply walk_not rfl rfl rfl
            · (simp only [Act.put,sIB,sCS,sCZ];rfl)))
     intro wz hwz
     simp only [zCC,zNR]
     repeat (first|rw [fin_is]|(rw [fin_cons];intro _ _))
     rw [fin_nil]
     try (replace hm:=hm.ext hwz)
     simp only [Act.put,sIB,sCS,sCZ]
     go_wp2_with (first|((((with_reducible show qSt);first|(refine zD hm ?_)));clear hm;intro w hm))
     go_roundw
     case rel=>
       rw [part_set' hlt rfl]at hm
       exact⟨k+1,by omega,by go_num,hm⟩
     case measure=>simp [intOf]<;>omega
   · obtain rfl:k=4:=by omega
     rw [part_all]at hm
     go_wp2_with (first|((with_reducible show qLd);first|(refine zB hm ?_))|((((with_reducible show qSt);first|(refine zE hm ?_)));clear hm;intro w hm))
     refine rtO hm rfl rfl ⟨rfl,hm.x⟩
theorem aboxed_any(g gb:Nat)(a:List Byte)(ha:a.length=4)(w0:World)(h1:Row w0 g 88 (tcells gb mixT unmixT))(h2:Row w0 gb 113 (tabs.map v8)):Gives Tryz.prog 85 #[.pointer (some ⟨g,0,none⟩),A8 a] w0 (A8 (boxW a)):=by
 unfold Gives
 have hm:=Own.start w0
 have TB:=hid fun (x:Byte)(w:World)(h:Ext w0 w)=>tbox_any g gb x w (row_ext h1 h) (row_ext h2 h)
 have ha1:=Nat.le_of_eq ha
 have ha2:=Nat.le_of_eq ha.symm
 have Ha:=hid ha
 clear ha h1 h2
 go_enter Tryz.func85,Tryz.ntmps85
 go_wp2_with (first|((with_reducible show qLd);first|(refine zB hm ?_))|((first|((with_reducible show qAl);first|(refine zG hm ?_))|((with_reducible show qBx);first|(refine zH hm ?_)));clear hm;(first|(have hx_:=g1;clear hx_;(first|(have hx_:=g2;clear hx_;intro gx_)|intro g2))|intro g1);intro w hm))
 rw [part_start (f:=fun i=>bxTo (nth a i)) Ha.out]at hm
 go_loopw [8] (fun i wr=>∃k:Nat,k≤4∧i= .int .i64 k∧Own w0 wr [⟨g2,156,(zer 4).map v8⟩,⟨g1,156,(part 4 k (fun i=>bxTo (nth a i)) (nth a)).map v8⟩]) (fun i _=>4-(intOf i).toNat)
 case atStart=>exact⟨0,by omega,rfl,hm⟩
 case round=>
   obtain⟨k,hk,rfl,hm⟩:=hrel
   by_cases hlt:k<4
   · have hd:decide ((k:Int)<4)=true:=decide_eq_true (by omega)
     have hd2:(k:Int)<4:=by omega
     have ec:=fun w=>run_index_v (P:=Tryz.prog) (T:=156) (e:=5) (f:=v8) (by kernel_rfl) a Ha.out k hlt w
     have EP:Hid (setN (part 4 k (fun i=>bxTo (nth a i)) (nth a)) k (bxTo (nth a k))=part 4 (k+1) (fun i=>bxTo (nth a i)) (nth a)):=hid (part_set' hlt rfl)
     have lP:(part 4 k (fun i=>bxTo (nth a i)) (nth a)).length=4:=part_length
     generalize part 4 k (fun i=>bxTo (nth a i)) (nth a)=C at*
     go_wp2_with (first|(go_at_call 30;(with_reducible refine(TB.out _ _ hm.x).mono ?_);rintro e_ w_ ⟨rfl,rfl⟩)|((((with_reducible show qSt);first|(refine zD hm ?_)));clear hm;intro w hm))
     rw [EP.out]at hm
     go_roundw
     case rel=>exact⟨k+1,by omega,by go_num,hm⟩
     case measure=>simp [intOf]<;>omega
   · obtain rfl:k=4:=by omega
     rw [part_all]at hm
     go_wp2_with (first|((with_reducible show qLd);first|(refine zB hm ?_))|((((with_reducible show qSt);first|(refine zE hm ?_)));clear hm;intro w hm))
     refine rtO hm rfl rfl ⟨rfl,hm.x⟩
theorem aboth_any(a b:List Byte)(ha:a.length=16)(hb:b.length=16)(w0:World):Gives Tryz.prog 90 #[A8 a,A8 b] w0 (A8 (bothL a b)):=by
 unfold Gives
 have hm:=Own.start w0
 have C1:=hid fun (w wx:World)(p q:Option Addr)(h1:RdB wx p a)(h2:RdB wx q b)=>by
   have h:=xor_any a b p q 16 16 wx h1 h2 (by omega) (by omega)
   rw [ha,hb]at h;exact h
 have lX:(xorL a b).length=16:=by rw [xorL_length,ha,hb];rfl
 have eX:blk (xorL a b)=bothL a b:=by
   refine nth_ext (by rw [blk_length,bothL_length]) fun i hi=> ?_
   rw [blk_length]at hi
   rw [bothL_nth _ _ _ hi]
   have h1:nth (blk (xorL a b)) i=nth (xorL a b) i:=by
     rw [show nth (xorL a b) i=gb (xorL a b) i from(gb_in _ i).symm];simp [nth,blk,hi]
   rw [h1]
   exact xorL_getD a b i (by rw [lX];exact hi)
 have C2:=hid fun (wx:World)(p:Option Addr)(c:Nat)(h:RdB wx p (xorL a b))=>eX ▸ oblock_any (xorL a b) p c wx h
 have lZ:(bothL a b).length=16:=bothL_length _ _
 generalize bothL a b=Z at*
 generalize xorL a b=X at*
 have ha1:=Nat.le_of_eq ha
 have ha2:=Nat.le_of_eq ha.symm
 have hb1:=Nat.le_of_eq hb
 have hb2:=Nat.le_of_eq hb.symm
 clear lX eX
 go_enter Tryz.func90,Tryz.ntmps90
 go_wp2_with (first|((first|((with_reducible show qAl);first|(refine zG hm ?_))|((with_reducible show qBx);first|(refine zH hm ?_)));clear hm;(first|(have hx_:=g1;clear hx_;(first|(have hx_:=g2;clear hx_;intro gx_)|intro g2))|intro g1);intro w hm))
 have c1:=fun wx (hwx:Ext _ wx)=>C1.out wx wx _ _ ((hm.ext hwx).rdB (g:=g1) (l:=a) (by repeat (first|exact Has.hd|assumption|apply Has.tl))) ((hm.ext hwx).rdB (g:=g2) (l:=b) (by repeat (first|exact Has.hd|assumption|apply Has.tl)))
 refine rgE 4 9 ?_
 simp only [tSC,tZe,dSC,dZe,mCo,mNi]
 repeat (first
     | (apply walk_some (BytesS X) 7 (BytesS.stable _) rfl rfl rfl rfl
        · (intro wx hwx;go_simp;with_reducible exact gives_callR (c1 wx hwx)))
     | (apply walk_from (T:=[(7,BytesS X)]) rfl rfl
        · (intro wx hwx;simp only [withS];(rintro x ⟨p,c,rfl,hlc,hb'⟩);refine⟨rfl, ?_⟩;go_simp;with_reducible exact gives_call (C2.out wx p c hb'))
        · (simp only [Act.put,sIB,sCS,sCZ];rfl))
     | (apply walk_is rfl rfl rfl
        · (intro wx hwx;go_simp;(try go_bits);first|exact gives_same|exact gives_skip)
        · (simp only [Act.put,sIB,sCS,sCZ];rfl))
     | (apply walk_not rfl rfl rfl
        · (simp only [Act.put,sIB,sCS,sCZ];rfl)))
 intro wz hwz
 simp only [zCC,zNR]
 repeat (first|rw [fin_is]|(rw [fin_cons];intro _ _))
 rw [fin_nil]
 try (replace hm:=hm.ext hwz)
 simp only [Act.put,sIB,sCS,sCZ]
 clear c1
 go_wp2_with (first|((((with_reducible show qSt);first|(refine zE hm ?_)));clear hm;intro w hm))
 refine rtO hm rfl rfl ⟨rfl,hm.x⟩
def joF(F:List Byte)(k:Nat):List Byte:=F.take (4*k)++List.replicate (16-4*k) 0
theorem joF_length(F:List Byte)(k:Nat)(hF:F.length=16)(hk:k≤4):(joF F k).length=16:=by rw [joF,List.length_append,List.length_take,List.length_replicate];omega
theorem joF_step(F b:List Byte)(k m:Nat)(hF:F.length=16)(hk:k<4)(hm:4≤m)(hb:(F.drop (4*k)).take 4=b):over (joF F k) (4*k) (b.take m)=joF F (k+1):=by
 have lb:b.length=4:=by rw [←hb,List.length_take,List.length_drop];omega
 have lt:(F.take (4*k)).length=4*k:=by rw [List.length_take];omega
 have e:(F.take (4*k)++List.replicate (16-4*k) (0:Byte)).drop (4*k+4)=List.replicate (16-4*(k+1)) 0:=by
   rw [List.drop_append,lt,List.drop_of_length_le (by omega),List.nil_append,List.drop_replicate,show 16-4*k-(4*k+4-4*k)=16-4*(k+1)from by omega]
 rw [List.take_of_length_le (by omega),over,joF,List.take_append_of_le_length (by omega),List.take_of_length_le (by omega),lb,e,joF,show 4*(k+1)=4*k+4 from by omega,List.take_add,hb]
theorem joF_all(F:List Byte)(hF:F.length=16):joF F 4=F:=by rw [joF,List.take_of_length_le (by omega)];simp
theorem joF_zero(F:List Byte):joF F 0=zer 16:=rfl
theorem joined_any(ws:List (List Byte))(p:Option Addr)(c:Nat)(w0:World)(h:RdK w0 p 4 ws)(h4:ws.length=4)(hc:4≤c):Gives Tryz.prog 87 #[.slice p 4 c] w0 (A8 ws.flatten):=by
 unfold Gives
 have hm:=Own.start w0
 have HK:=hid h
 have H4:=hid h4
 have lF:ws.flatten.length=16:=by rw [flatten_length 4 ws h.1,h4]
 have LF:=hid lF
 have FS:=hid fun k (hk:k<4)=>(flatten_seg 4 ws k h.1 (by omega):(ws.flatten.drop (k*4)).take 4=ws.getD k [])
 obtain⟨F,hF⟩:∃F,F=ws.flatten:=⟨_,rfl⟩
 rw [←hF]at LF FS⊢
 clear h h4 lF hF
 go_enter Tryz.func87,Tryz.ntmps87
 go_wp2_with (first|((first|((with_reducible show qAl);first|(refine zG hm ?_)));clear hm;(first|(have hx_:=g1;clear hx_;(first|(have hx_:=g2;clear hx_;intro gx_)|intro g2))|intro g1);intro w hm))
 go_loopw [8] (fun i wr=>∃k:Nat,k≤4∧i= .int .i64 k∧Own w0 wr [⟨g2,132,(joF F k).map v8⟩,⟨g1,132,(zer 16).map v8⟩]) (fun i _=>4-(intOf i).toNat)
 case atStart=>exact⟨0,by omega,rfl,by rw [joF_zero];exact hm⟩
 case round =>
   obtain⟨k,hk,rfl,hm⟩:=hrel
   by_cases hlt:k<4
   · have hd:decide ((k:Int)<4)=true:=decide_eq_true (by omega)
     have hd2:(k:Int)<4:=by omega
     obtain⟨a,rfl⟩:=HK.out.addr (by omega) (by rw [H4.out];omega)
     obtain⟨hK,hKl⟩:=HK.out.at (by omega) k (by rw [H4.out];exact hlt)
     simp only [Option.getD_some]at hK
     have HK2:=hid hK
     have ST:=hid fun m (hm4:4≤m)=>joF_step F (ws.getD k []) k m LF.out hlt hm4 (by rw [Nat.mul_comm];exact FS.out k hlt)
     have lJ:=joF_length F k LF.out (by omega)
     have lJ2:=joF_length F (k+1) LF.out (by omega)
     generalize joF F k=J at*
     obtain⟨J2,hJ2⟩:∃J2,joF F (k+1)=J2:=⟨_,rfl⟩
     rw [hJ2]at ST lJ2
     have HJ2:=hid hJ2
     clear hJ2
     generalize ws.getD k []=K at*
     have hK1:=Nat.le_of_eq hKl
     have hK2':=Nat.le_of_eq hKl.symm
     clear hK
     go_wp2_with (first|((with_reducible apply wq_rdW (HK2.out.ext hm.x));exact rfl;infer_instance;exact rfl;exact hKl)|((((with_reducible show qSt);first|(refine zE hm ?_)));clear hm;intro w hm)|((first|((with_reducible show qAl);first|(refine zG hm ?_)));clear hm;(first|(have hx_:=g1;clear hx_;(first|(have hx_:=g2;clear hx_;intro gx_)|intro g2))|intro g1);intro w hm))
     have hl0:(0:Int)≤4*(k:Int):=by omega
     have hl1:4*(k:Int)≤16:=by omega
     have hl2:(4*(k:Int)).toNat=4*k:=by omega
     have hl3:16≠4*k:=by omega
     have hl4:¬16=4*k:=hl3
     refine rgE 4 20 ?_
     simp only [tSC,tZe,dSC,dZe,mCo,mNi]
     repeat (first
         | (apply walk_is rfl rfl rfl
            · (intro wx hwx;go_simp;(try go_bits);first|exact gives_same|exact gives_skip)
            · (simp only [Act.put,sIB,sCS,sCZ];rfl))
         | (apply walk_not rfl rfl rfl
            · (simp only [Act.put,sIB,sCS,sCZ];rfl)))
     intro wz hwz
     simp only [zCC,zNR]
     repeat (first|rw [fin_is]|(rw [fin_cons];intro _ _))
     rw [fin_nil]
     try (replace hm:=hm.ext hwz)
     simp only [Act.put,sIB,sCS,sCZ]
     refine wpl_cp8 hm rfl rfl rfl rfl rfl (by kernel_rfl) (by repeat (first|exact Swap.hd|assumption|apply Swap.tl)) (hm.rdB (l:=K) (by repeat (first|exact Has.hd|assumption|apply Has.tl))) hKl.symm (ST.out _ (by omega)) (by omega) ?_
     clear hm
     intro w hm
     go_wp2_with fail
     go_roundw
     case rel=>exact⟨k+1,by omega,by go_num,by rw [HJ2.out];exact hm.drop⟩
     case measure=>simp [intOf]<;>omega
   · obtain rfl:k=4:=by omega
     rw [joF_all _ LF.out]at hm
     have lF1:=Nat.le_of_eq LF.out
     have lF2:=Nat.le_of_eq LF.out.symm
     go_wp2_with (first|((with_reducible show qLd);first|(refine zB hm ?_))|((((with_reducible show qSt);first|(refine zE hm ?_)));clear hm;intro w hm))
     refine rtO hm rfl rfl ⟨rfl,hm.x⟩
theorem wq_row1 {P:Program}{ops:Array Oper}{Q:Exit→Act→World→Prop}{rest:List Oper}{a:Act}{w:World}{g k:Nat}{t T ty:TypeId}{cs:List Value}{v:Value}{dst:Option Tmp}{x:Operand}{pos:String}{aft:Array Edge}{gd:Option (Nat×Bool)}(h:Row w g t cs)(hgd:Region.wanted (Oper.mk dst (.load T x) ty pos aft gd) (yielded ops a.tmps)=true)(hT:One1 P T)(hx:a.eval x= .pointer (some ⟨g,k,none⟩))(hv:cs[k]? =some v)(hr:wpList P ops Q rest (a.put dst v) w):wpList P ops Q (Oper.mk dst (.load T x) ty pos aft gd::rest) a w:=
 wpList_want hgd fun K hK=>by
   have hc:w.cell? ⟨g,k,none⟩=some v:=by rw [row_cell h k];exact hv
   obtain⟨d,hu,hd⟩:=Option.map_eq_some_iff.1 hT.row
   have hagg:(isAgg T).run P w= .ok false w:=by
     unfold isAgg
     rw [Sem.run_bind,run_underlying hu w]
     cases d<;>simp_all
   have hl:(Instr.loadAt T (.pointer (some ⟨g,k,none⟩))).run P w= .ok v w:=by simp [Instr.loadAt,Instr.sureAddr,loadVar,Sem.run_bind,hagg,hc]
   unfold Oper.wp execOp
   simp only [hx,Sem.run_bind,hl,Result.andThen_ok,Sem.run_pure]
   exact hK _ _ hr
def aesC(gt:Nat)(p:Option Addr)(n c:Nat):List Value:=[.pointer (some ⟨gt,0,none⟩), .slice p n c]
def AesR(w:World)(g:Nat)(k0:List Byte)(ks:List (List Byte))(kl:List Byte):Prop:=
 ∃gt gb a c,Row w g 163 (aesC gt (some a) (ks.length+2) c)∧Row w gt 88 (tcells gb mixT unmixT)∧Row w gb 113 (tabs.map v8)∧RdK w (some a) 16 (k0::(ks++[kl]))∧ks.length+2≤c∧0<ks.length∧ks.length≤1000
theorem AesR.ext {w w':World}{g:Nat}{k0 kl:List Byte}{ks:List (List Byte)}(h:AesR w g k0 ks kl)(hx:Ext w w'):AesR w' g k0 ks kl:=by
 obtain⟨gt,gb,a,c,h1,h2,h3,h4,h5⟩:=h
 exact⟨gt,gb,a,c,row_ext h1 hx,row_ext h2 hx,row_ext h3 hx,h4.ext hx,h5⟩
theorem RdK.three {w:World}{a:Addr}{k0 kl:List Byte}{ks:List (List Byte)}(h:RdK w (some a) 16 (k0::(ks++[kl])))(h0:0<ks.length):
   k0.length=16∧kl.length=16∧RdB w (some a) k0∧RdK w (some (a.add 16)) 16 ks∧RdB w (some (a.add ((ks.length+1)*16))) kl:=by
 have e0:=h.at (by omega) 0 (by simp)
 have e1:=h.at (by omega) (ks.length+1) (by simp)
 have el:(k0::(ks++[kl])).getD (ks.length+1) []=kl:=by simp
 rw [el]at e1
 simp only [List.getD_cons_zero,Option.getD_some,Nat.zero_mul]at e0 e1
 have hks:∀k∈ks,k.length=16:=fun k hk=>h.1 k (by simp [hk])
 have lk:=flatten_length 16 ks hks
 have hs:=h.2.sub 16 (ks.length*16) (by simp only [List.flatten_cons,List.flatten_append,List.length_append,e0.2,lk];omega) (by omega)
 have ef:((k0::(ks++[kl])).flatten.drop 16).take (ks.length*16)=ks.flatten:=by
   rw [List.flatten_cons,List.drop_append_of_le_length (by omega),List.drop_of_length_le (by omega),List.nil_append,List.flatten_append,List.take_append_of_le_length (by omega),List.take_of_length_le (by omega)]
 rw [ef]at hs
 refine⟨e0.2,e1.2, ?_,⟨hks,hs⟩,e1.1⟩
 have:=e0.1
 rwa [show a.add 0=a from rfl]at this
def aesE(k0:List Byte)(ks:List (List Byte))(kl b:List Byte):List Byte:=last (rnds (bothL b k0) ks) kl
theorem aesE_length(k0:List Byte)(ks:List (List Byte))(kl b:List Byte):(aesE k0 ks kl b).length=16:=by rw [aesE];exact last_length _ _
theorem encrypt_any(g:Nat)(k0 kl:List Byte)(ks:List (List Byte))(b:List Byte)(hb:b.length=16)(w0:World)(h:AesR w0 g k0 ks kl):Gives Tryz.prog 67 #[.pointer (some ⟨g,0,none⟩),A8 b] w0 (A8 (aesE k0 ks kl b)):=by
 unfold Gives
 have hm:=Own.start w0
 obtain⟨gt,gb,a,c,h1,h2,h3,h4,h5,h6,h7⟩:=h
 have R1:=hid fun wx (hx:Ext w0 wx)=>row_ext h1 hx
 have R2:=hid fun wx (hx:Ext w0 wx)=>row_ext h2 hx
 have R3:=hid fun wx (hx:Ext w0 wx)=>row_ext h3 hx
 obtain⟨l0,ll,d0,dm,dl⟩:=h4.three h6
 have D0:=hid d0
 have DM:=hid dm
 have DL:=hid dl
 obtain⟨m,hm_⟩:∃m,ks.length=m:=⟨_,rfl⟩
 have B0:=hid fun wx=>aboth_any b k0 hb l0 wx
 have B1:=hid fun wx (hx:Ext w0 wx)=>show Gives Tryz.prog 89 #[.pointer (some ⟨gt,0,none⟩),A8 (bothL b k0), .slice (some (a.add 16)) m (c-1)] wx (A8 (rnds (bothL b k0) ks))from by
   have:=trounds_any gt gb (bothL b k0) ks (some (a.add 16)) (c-1) (bothL_length _ _) wx (dm.ext hx) (by omega) (by omega) (row_ext h2 hx)
   rwa [hm_]at this
 have lR:(rnds (bothL b k0) ks).length=16:=rnds_length _ _ (bothL_length _ _)
 have B2:=hid fun wx (hx:Ext w0 wx)=>show Gives Tryz.prog 91 #[.pointer (some ⟨gt,0,none⟩),A8 (rnds (bothL b k0) ks),A8 kl] wx (A8 (aesE k0 ks kl b))from last_any gt gb (rnds (bothL b k0) ks) kl lR ll wx (row_ext h2 hx) (row_ext h3 hx)
 have lE:=aesE_length k0 ks kl b
 rw [hm_]at R1 h5 h6 h7 DL
 generalize aesE k0 ks kl b=E at*
 generalize rnds (bothL b k0) ks=R at*
 generalize bothL b k0=X at*
 have P0:Hid ((aesC gt (some a) (m+2) c)[0]? =some (.pointer (some ⟨gt,0,none⟩))):=hid rfl
 have P1:Hid ((aesC gt (some a) (m+2) c)[1]? =some (.slice (some a) (m+2) c)):=hid rfl
 have q1:((m:Int)+2)-1=(m:Int)+1:=by omega
 have q2:(1:Int)≤(m:Int)+1:=by omega
 have q3:(m:Int)+1≤(c:Int):=by omega
 have q4:(m:Int)+1<(m:Int)+2:=by omega
 have q5:((m:Int)+1).toNat=m+1:=by omega
 have q6:(0:Int)<(m:Int)+2:=by omega
 have q7:¬c=1:=by omega
 have q8:(m:Int)+1<(m:Int)+2:=by omega
 have q9:0≤(m:Int)+1:=by omega
 have hb1:=Nat.le_of_eq hb
 have hb2:=Nat.le_of_eq hb.symm
 have hl1:=Nat.le_of_eq lR
 have hl2:=Nat.le_of_eq lR.symm
 have he1:=Nat.le_of_eq lE
 have he2:=Nat.le_of_eq lE.symm
 clear h1 h2 h3 h4 d0 dm dl hm_ hb lR lE
 go_enter Tryz.func67,Tryz.ntmps67
 go_wp2_with (first|((with_reducible apply wq_row1 (R1.out _ hm.x));exact rfl;infer_instance;exact rfl;exact P1.out)|((first|((with_reducible show qAl);first|(refine zG hm ?_))|((with_reducible show qBx);first|(refine zH hm ?_)));clear hm;intro gx_;intro w hm))
 have r1:=fun wx (hwx:Ext w wx)=>R1.out wx (hm.x.trans hwx)
 have d0:=fun wx (hwx:Ext w wx)=>D0.out.ext (hm.x.trans hwx)
 have hx0:=hm.x
 refine rgE 19 47 ?_
 simp only [tSC,tZe,dSC,dZe,mCo,mNi]
 repeat (first
     | (apply walk_is rfl rfl rfl
        · (intro wx hwx;(with_reducible apply gq_row1 ((r1) wx hwx));infer_instance;exact rfl;exact P0.out)
        · (simp only [Act.put,sIB,sCS,sCZ];rfl))
     | (apply walk_is rfl rfl rfl
        · (intro wx hwx;(with_reducible apply gq_row1 ((r1) wx hwx));infer_instance;exact rfl;exact P1.out)
        · (simp only [Act.put,sIB,sCS,sCZ];rfl))
     | (apply walk_is rfl rfl rfl
        · (intro wx hwx;(with_reducible apply gq_rdW ((d0) wx hwx));infer_instance;exact rfl;(focus (first|rfl|omega|(simp;done)|(simp;omega))))
        · (simp only [Act.put,sIB,sCS,sCZ];rfl))
     | (apply walk_is rfl rfl rfl
        · (intro wx hwx;first|((with_reducible show qGl);first|(exact zK (hm.ext hwx)))|(go_simp;(try go_bits);first|exact gives_same|exact gives_skip|with_reducible exact gives_call (B0.out wx)|exact gives_call (B1.out wx (hx0.trans hwx))))
        · (simp only [Act.put,sIB,sCS,sCZ];rfl))
     | (apply walk_not rfl rfl rfl
        · (simp only [Act.put,sIB,sCS,sCZ];rfl)))
 intro wz hwz
 simp only [zCC,zNR]
 repeat (first|rw [fin_is]|(rw [fin_cons];intro _ _))
 rw [fin_nil]
 try (replace hm:=hm.ext hwz)
 simp only [Act.put,sIB,sCS,sCZ]
 clear r1 d0 hx0
 go_wp2_with (first|((((with_reducible show qSt);first|(refine zE hm ?_)));clear hm;intro w hm))
 have r1:=fun wx (hwx:Ext w wx)=>R1.out wx (hm.x.trans hwx)
 have d0:=fun wx (hwx:Ext w wx)=>DL.out.ext (hm.x.trans hwx)
 have hx0:=hm.x
 refine rgE 13 47 ?_
 simp only [tSC,tZe,dSC,dZe,mCo,mNi]
 repeat (first
     | (apply walk_is rfl rfl rfl
        · (intro wx hwx;(with_reducible apply gq_row1 ((r1) wx hwx));infer_instance;exact rfl;exact P0.out)
        · (simp only [Act.put,sIB,sCS,sCZ];rfl))
     | (apply walk_is rfl rfl rfl
        · (intro wx hwx;(with_reducible apply gq_row1 ((r1) wx hwx));infer_instance;exact rfl;exact P1.out)
        · (simp only [Act.put,sIB,sCS,sCZ];rfl))
     | (apply walk_is rfl rfl rfl
        · (intro wx hwx;(with_reducible apply gq_rdW ((d0) wx hwx));infer_instance;exact rfl;(focus (first|rfl|omega|(simp;done)|(simp;omega))))
        · (simp only [Act.put,sIB,sCS,sCZ];rfl))
     | (apply walk_is rfl rfl rfl
        · (intro wx hwx;first|((with_reducible show qGl);first|(exact zK (hm.ext hwx)))|(go_simp;(try go_bits);first|exact gives_same|exact gives_skip|with_reducible exact gives_call (B2.out wx (hx0.trans hwx))))
        · (simp only [Act.put,sIB,sCS,sCZ];rfl))
     | (apply walk_not rfl rfl rfl
        · (simp only [Act.put,sIB,sCS,sCZ];rfl)))
 intro wz hwz
 simp only [zCC,zNR]
 repeat (first|rw [fin_is]|(rw [fin_cons];intro _ _))
 rw [fin_nil]
 try (replace hm:=hm.ext hwz)
 simp only [Act.put,sIB,sCS,sCZ]
 clear r1 d0 hx0
 go_wp2_with (first|((((with_reducible show qSt);first|(refine zE hm ?_)));clear hm;intro w hm))
 refine rtO hm rfl rfl ⟨rfl,hm.x⟩
end Go.Proofs.YtneacgpmjlocjaaGreatDoor
