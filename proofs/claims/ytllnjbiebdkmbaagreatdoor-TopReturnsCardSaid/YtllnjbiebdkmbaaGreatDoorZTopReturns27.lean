/-
  Texts of the program, walked, and plain ones. Conditions: those written in each theorem.
-/
import Derived.Test.YtllnjbiebdkmbaaGreatDoorZTopReturns0
import Derived.Test.YtllnjbiebdkmbaaGreatDoorZTopReturns26
import Derived.Test.YtllnjbiebdkmbaaGreatDoorZTopReturns14
set_option linter.unusedSimpArgs false
set_option linter.unusedVariables false
set_option maxHeartbeats 16000000
namespace Go.Proofs.YtllnjbiebdkmbaaGreatDoor
open Go Go.RowKit
set_option maxRecDepth 100000
theorem xor_twice(a b:List Byte)(h:a.length≤b.length):xorL (xorL a b) b=a:=by
 apply List.ext_getElem
 · simp [xorL_length];omega
 · intro i h1 h2
   simp [xorL,BitVec.xor_assoc]
def glueF(G:Nat→List Byte):Nat→List Byte
 |0=>[]
 |k+1=>glueF G k++G k
def sumG(G:Nat→List Byte):Nat→List Byte
 |0=>zer 16
 |k+1=>bothL (sumG G k) (G k)
def fstB(ps:List Byte)(k:Nat):List Byte:=(ps.drop (32*k)).take 16
def sndB(ps:List Byte)(k:Nat):List Byte:=(ps.drop (32*k+16)).take 16
section
variable (F:Int→Int→List Byte→List Byte)
def wF(ps:List Byte)(k:Nat):List Byte:=bothL (fstB ps k) (F 1 ((k:Int)+1) (sndB ps k))
def xF(ps:List Byte)(k:Nat):List Byte:=bothL (sndB ps k) (F 0 0 (wF F ps k))
def wxF(ps:List Byte)(k:Nat):List Byte:=wF F ps k++xF F ps k
def yF(z qs:List Byte)(k:Nat):List Byte:=bothL (fstB qs k) (F 2 ((k:Int)+1) z)
def vF(z qs:List Byte)(k:Nat):List Byte:=bothL (sndB qs k) (F 2 ((k:Int)+1) z)
def secF(z qs:List Byte)(k:Nat):List Byte:=bothL (yF F z qs k) (F 0 0 (vF F z qs k))
def firF(z qs:List Byte)(k:Nat):List Byte:=bothL (vF F z qs k) (F 1 ((k:Int)+1) (secF F z qs k))
def fsF(z qs:List Byte)(k:Nat):List Byte:=firF F z qs k++secF F z qs k
def tailL(u v:List Byte):List Byte:=
 if u.length=0 then zer 16 else if u.length=16 then bothL (F 0 4 u) (F 0 5 (blk (v++[128#8])))else F 0 4 (blk (u++[128#8]))
end
section
variable (F:Int→Int→List Byte→List Byte)
section
variable (z ps:List Byte) (n:Nat)
def oneP:List Byte:=glueF (wxF F ps) n
def twoP:List Byte:=glueF (fsF F z (oneP F ps n)) n
end
end
structure CoreT where
 ps:List Byte
 u:List Byte
 v:List Byte
 x:List Byte
 y:List Byte
structure CoreT.Ok (c:CoreT) (n:Nat):Prop where
 ps:c.ps.length=32*n
 u:c.u.length≤16
 v:c.v.length≤15
 uv:c.u.length<16→c.v=[]
 x:c.x.length=16
 y:c.y.length=16
section
variable (F:Int→Int→List Byte→List Byte) (h:List Byte) (a b:Int) (n:Nat) (c:CoreT)
def sT:List Byte:=bothL (bothL (bothL c.x h) (bothL (sumG (xF F c.ps) n) (tailL F c.u c.v))) (F 0 a c.y)
def tT:List Byte:=bothL c.y (F (-1) a (sT F h a n c))
def zT:List Byte:=bothL (sT F h a n c) (tT F h a n c)
def uT:List Byte:=xorL c.u (F (-1) 4 (zT F h a n c))
def vT:List Byte:=xorL c.v (F (-1) 5 (zT F h a n c))
def qT:List Byte:=bothL (sumG (yF F (zT F h a n c) (oneP F c.ps n)) n) (tailL F (uT F h a n c) (vT F h a n c))
def yT:List Byte:=bothL (sT F h a n c) (F (-1) b (tT F h a n c))
def xT:List Byte:=bothL (bothL (bothL (tT F h a n c) h) (qT F h a n c)) (F 0 b (yT F h a b n c))
def coreT:CoreT:=⟨twoP F (zT F h a n c) c.ps n,uT F h a n c,vT F h a n c,xT F h a b n c,yT F h a b n c⟩
end
section
variable (F:Int→Int→List Byte→List Byte) (hF:∀j m x,(F j m x).length=16) (h:List Byte) (a b:Int) (n:Nat) (c:CoreT)
end
def joinT(c:CoreT):List Byte:=c.ps++(c.u++(c.v++(c.x++c.y)))
def restM(m:List Byte):List Byte:=(m.drop (32*((m.length-32)/32))).take (m.length-32-32*((m.length-32)/32))
def splitT(m:List Byte):CoreT:=⟨m.take (32*((m.length-32)/32)),(restM m).take 16,(restM m).drop 16,(m.drop (m.length-32)).take 16,m.drop (m.length-16)⟩
def coreL(F:Int→Int→List Byte→List Byte)(h:List Byte)(a b:Int)(m:List Byte):List Byte:=joinT (coreT F h a b ((m.length-32)/32) (splitT m))
section
variable (F:Int→Int→List Byte→List Byte) (hF:∀j m x,(F j m x).length=16) (h:List Byte) (a b:Int)
end
def nibL(b:List Byte)(k:Nat):Byte:=(nth b (k/2)>>>(4*(1-k%2)))&&&15#8
def halvesL(b:List Byte)(s n:Nat):List Byte:=tab n fun i=>nibL b (s+i)
def joinN(hs:List Byte):List Byte:=tab ((hs.length+1)/2) fun q=>((nth hs (2*q)&&&15#8)<<<4)|||(nth hs (2*q+1)&&&15#8)
theorem halvesL_length(b:List Byte)(s n:Nat):(halvesL b s n).length=n:=tab_length
theorem joinN_length(hs:List Byte):(joinN hs).length=(hs.length+1)/2:=tab_length
theorem lo_nib:∀x:Byte,∃i:Fin 16,x&&&15#8=BitVec.ofNat 8 i.val:=by decide+kernel
theorem nib_hi(x y:Byte):((((x&&&15#8)<<<4)|||(y&&&15#8))>>>4)&&&15#8=x&&&15#8:=by
 have key:∀i j:Fin 16,(((BitVec.ofNat 8 i.val<<<4)|||BitVec.ofNat 8 j.val)>>>4)&&&15#8=BitVec.ofNat 8 i.val:=by decide+kernel
 obtain⟨i,hi⟩:=lo_nib x
 obtain⟨j,hj⟩:=lo_nib y
 rw [hi,hj];exact key i j
theorem nib_lo(x y:Byte):(((x&&&15#8)<<<4)|||(y&&&15#8))&&&15#8=y&&&15#8:=by
 have key:∀i j:Fin 16,((BitVec.ofNat 8 i.val<<<4)|||BitVec.ofNat 8 j.val)&&&15#8=BitVec.ofNat 8 j.val:=by decide+kernel
 obtain⟨i,hi⟩:=lo_nib x
 obtain⟨j,hj⟩:=lo_nib y
 rw [hi,hj];exact key i j
theorem hi_bit:∀y:Byte,y&&&128#8=0#8∨y&&&128#8=128#8:=by decide+kernel
theorem nib_byte:∀x:Byte,((((x>>>4)&&&15#8)&&&15#8)<<<4)|||((x&&&15#8)&&&15#8)=x:=by decide+kernel
theorem nib_two:∀x:Byte,(x&&&15#8)&&&15#8=x&&&15#8:=by decide+kernel
theorem nib_join(hs:List Byte)(i:Nat)(hi:i<hs.length):nibL (joinN hs) i=nth hs i&&&15#8:=by
 rw [nibL,joinN,nth_tab (by omega)]
 by_cases e:i%2=0
 · rw [e,show 2*(i/2)=i by omega]
   exact nib_hi _ _
 · have e1:i%2=1:=by omega
   have e2:2*(i/2)+1=i:=by omega
   rw [e1,e2,show 4*(1-1)=0 from rfl,BitVec.ushiftRight_zero]
   exact nib_lo _ _
theorem join_halves(m:List Byte):joinN (halvesL m 0 (2*m.length))=m:=nth_ext (by rw [joinN_length,halvesL_length];omega) fun i hi=>by
 rw [joinN_length,halvesL_length]at hi
 rw [joinN,halvesL_length,nth_tab hi,halvesL,nth_tab (by omega),nth_tab (by omega),nibL,nibL]
 rw [show(0+2*i)/2=i by omega,show(0+(2*i+1))/2=i by omega,show(0+2*i)%2=0 by omega,show(0+(2*i+1))%2=1 by omega]
 show(((nth m i>>>4)&&&15#8&&&15#8)<<<4)|||(((nth m i>>>0)&&&15#8)&&&15#8)=_
 rw [BitVec.ushiftRight_zero]
 exact nib_byte _
def NibOk(l:List Byte):Prop:=∀i,nth l i&&&15#8=nth l i
theorem halvesL_ok(b:List Byte)(s n:Nat):NibOk (halvesL b s n):=fun i=>by
 by_cases h:i<n
 · rw [halvesL,nth_tab h,nibL,nib_two]
 · rw [nth_ge (by rw [halvesL_length];omega)];decide
theorem xorL_nth(a b:List Byte)(i:Nat)(h:i<(xorL a b).length):nth (xorL a b) i=nth a i^^^nth b i:=xorL_getD a b i h
theorem and_xor15(a b:Byte):(a^^^b)&&&15#8=(a&&&15#8)^^^(b&&&15#8):=by
 apply BitVec.eq_of_getLsbD_eq
 intro i _
 simp only [BitVec.getLsbD_and,BitVec.getLsbD_xor,Bool.and_xor_distrib_right]
theorem xorL_ok {a b:List Byte}(ha:NibOk a)(hb:NibOk b):NibOk (xorL a b):=fun i=>by
 by_cases h:i<(xorL a b).length
 · rw [xorL_nth a b i h,and_xor15,ha,hb]
 · rw [nth_ge (by omega)];decide
theorem halves_add(m:List Byte)(n:Nat):halvesL m 0 n++halvesL m n n=halvesL m 0 (2*n):=nth_ext (by simp only [List.length_append,halvesL_length];omega) fun i hi=>by
 simp only [List.length_append,halvesL_length]at hi
 by_cases h:i<n
 · have e:nth (halvesL m 0 n++halvesL m n n) i=nth (halvesL m 0 n) i:=by
     simp only [nth,List.getD_eq_getElem?_getD]
     rw [List.getElem?_append_left (by rw [halvesL_length];exact h)]
   rw [e,halvesL,halvesL,nth_tab h,nth_tab (by omega)]
 · have e:nth (halvesL m 0 n++halvesL m n n) i=nth (halvesL m n n) (i-n):=by
     simp only [nth,List.getD_eq_getElem?_getD]
     rw [List.getElem?_append_right (by rw [halvesL_length];omega),halvesL_length]
   rw [e,halvesL,halvesL,nth_tab (by omega),nth_tab (by omega)]
   congr 1;omega
theorem halves_all(m:List Byte):joinN (halvesL m 0 m.length++halvesL m m.length m.length)=m:=by rw [halves_add,join_halves]
theorem halves_left(l r:List Byte)(hl:NibOk l)(n:Nat)(ll:l.length=n):halvesL (joinN (l++r)) 0 n=l:=nth_ext (by rw [halvesL_length,ll]) fun i hi=>by
 rw [halvesL_length]at hi
 rw [halvesL,nth_tab hi,Nat.zero_add,nib_join _ _ (by rw [List.length_append];omega)]
 have e:nth (l++r) i=nth l i:=by
   simp only [nth,List.getD_eq_getElem?_getD]
   rw [List.getElem?_append_left (by omega)]
 rw [e,hl]
theorem halves_right(l r:List Byte)(hr:NibOk r)(n:Nat)(ll:l.length=n)(lr:r.length=n):halvesL (joinN (l++r)) n n=r:=nth_ext (by rw [halvesL_length,lr]) fun i hi=>by
 rw [halvesL_length]at hi
 rw [halvesL,nth_tab hi,nib_join _ _ (by rw [List.length_append];omega)]
 have e:nth (l++r) (n+i)=nth r i:=by
   simp only [nth,List.getD_eq_getElem?_getD]
   rw [List.getElem?_append_right (by omega),ll,Nat.add_sub_cancel_left]
 rw [e,hr]
def roundsN(n:Nat):Nat:=if n<1∨31<n then 0 else if n=1 then 24 else if n=2 then 16 else if n<16 then 10 else 8
def cntB(n:Nat):List Byte:=tab 16 fun q=>if 8≤q then nth (putL (BitVec.ofNat 64 n) 8) (15-q)else 0#8
theorem cntB_length(n:Nat):(cntB n).length=16:=tab_length
section
variable (F:Int→Int→List Byte→List Byte) (h:List Byte)
def stepB(j:Nat)(half:List Byte):List Byte:=bothL (bothL (blk (joinN (half++[8#8]))) h) (cntB j)
def stepL(i:Int)(j:Nat)(half:List Byte):List Byte:=halvesL (F 0 i (stepB h j half)) 0 half.length
theorem stepL_length(i:Int)(j:Nat)(half:List Byte):(stepL F h i j half).length=half.length:=halvesL_length _ _ _
theorem stepL_ok(i:Int)(j:Nat)(half:List Byte):NibOk (stepL F h i j half):=halvesL_ok _ _ _
def topB(m:List Byte):List Byte:=bothL (setN (blk m) 0 (nth (blk m) 0|||128#8)) h
def flipL(m:List Byte):List Byte:=if m.length=0∨16≤m.length then m else setN m 0 (nth m 0^^^(nth (F 0 3 (topB h m)) 0&&&128#8))
theorem flipL_length(m:List Byte):(flipL F h m).length=m.length:=by
 unfold flipL;split
 · rfl
 · exact List.length_set
theorem top_or:∀x y:Byte,(x^^^(y&&&128#8))|||128#8=x|||128#8:=by
 have key:∀x:Byte,(x^^^0#8)|||128#8=x|||128#8∧(x^^^128#8)|||128#8=x|||128#8:=by decide+kernel
 intro x y
 rcases hi_bit y with h|h
 · rw [h];exact(key x).1
 · rw [h];exact(key x).2
theorem flip_top(m:List Byte)(x:Byte)(h0:m.length≠0):topB h (setN m 0 (nth m 0^^^(x&&&128#8)))=topB h m:=by
 have e:setN (blk (setN m 0 (nth m 0^^^(x&&&128#8)))) 0 (nth (blk (setN m 0 (nth m 0^^^(x&&&128#8)))) 0|||128#8)=setN (blk m) 0 (nth (blk m) 0|||128#8):=nth_ext (by rw [setN_length,setN_length,blk_length,blk_length]) fun i hi=>by
   rw [setN_length,blk_length]at hi
   rw [nth_set (by rw [blk_length];exact hi),nth_set (by rw [blk_length];exact hi)]
   by_cases e:0=i
   · rw [if_pos e,if_pos e,blk_nth _ _ (by omega),blk_nth _ _ (by omega),nth_set (by omega),if_pos rfl]
     exact top_or _ _
   · rw [if_neg e,if_neg e,blk_nth _ _ hi,blk_nth _ _ hi]
     by_cases hl:i<m.length
     · rw [nth_set hl,if_neg e]
     · rw [nth_ge (by rw [setN_length];omega),nth_ge (by omega)]
 rw [topB,e];rfl
theorem flipL_twice(m:List Byte):flipL F h (flipL F h m)=m:=by
 by_cases c:m.length=0∨16≤m.length
 · have e:flipL F h m=m:=if_pos c
   rw [e,e]
 · have hl:=flipL_length F h m
   have e:flipL F h m=setN m 0 (nth m 0^^^(nth (F 0 3 (topB h m)) 0&&&128#8)):=if_neg c
   conv=>lhs;rw [flipL]
   rw [hl,if_neg c,e,flip_top h m _ (by omega)]
   generalize nth (F 0 3 (topB h m)) 0&&&128#8=x
   refine nth_ext (by rw [setN_length,setN_length]) fun i hi=> ?_
   rw [setN_length,setN_length]at hi
   rw [nth_set (by rw [setN_length];exact hi),nth_set (by omega),if_pos rfl]
   by_cases e:0=i
   · subst e;rw [if_pos rfl,BitVec.xor_assoc,BitVec.xor_self,BitVec.xor_zero]
   · rw [if_neg e,nth_set (by omega),if_neg e]
end
def rndT(S:Nat→List Byte→List Byte)(j:Nat)(p:List Byte×List Byte):List Byte×List Byte:=(p.2,xorL p.1 (S j p.2))
def rndsT(S:Nat→List Byte→List Byte)(J:Nat→Nat)(p:List Byte×List Byte):Nat→List Byte×List Byte
 |0=>p
 |k+1=>rndT S (J k) (rndsT S J p k)
structure TwoN (n:Nat) (p:List Byte×List Byte):Prop where
 l:p.1.length=n
 r:p.2.length=n
 lo:NibOk p.1
 ro:NibOk p.2
section
variable (S:Nat→List Byte→List Byte) (hS:∀j x,(S j x).length=x.length) (hO:∀j x,NibOk (S j x)) (J:Nat→Nat) (n:Nat) (p:List Byte×List Byte)
include hS hO in
theorem rndsT_two(hp:TwoN n p):∀k,TwoN n (rndsT S J p k)
 |0=>hp
 | k+1=>by
   have h:=rndsT_two hp k
   exact⟨h.r,by show(xorL _ _).length=n;rw [xorL_length,hS,h.l,h.r,Nat.min_self],h.ro,xorL_ok h.lo (hO _ _)⟩
theorem rndsT_ext(I:Nat→Nat):∀k,(∀i,i<k→I i=J i)→rndsT S I p k=rndsT S J p k
 |0,_=>rfl
 |k+1,h=>by rw [rndsT,rndsT,rndsT_ext I k fun i hi=>h i (by omega),h k (by omega)]
def swapT(p:List Byte×List Byte):List Byte×List Byte:=(p.2,p.1)
include hS hO in
theorem rndsT_back(R:Nat)(hp:TwoN n p):∀k,k≤R→rndsT S (fun i=>J (R-1-i)) (swapT (rndsT S J p R)) k=swapT (rndsT S J p (R-k))
 |0,_=>rfl
 | k+1,h=>by
   have hq:=rndsT_two S hS hO J n p hp (R-(k+1))
   rw [rndsT,rndsT_back R hp k (by omega),show R-k=(R-(k+1))+1 by omega,rndsT,show R-1-k=R-(k+1)by omega]
   generalize rndsT S J p (R-(k+1))=q at*
   show(q.2,xorL (xorL q.1 (S _ q.2)) (S _ q.2))=(q.2,q.1)
   rw [xor_twice _ _ (by rw [hS,hq.l,hq.r];exact Nat.le_refl _)]
include hS hO in
theorem rndsT_all(R:Nat)(hp:TwoN n p):rndsT S (fun i=>J (R-1-i)) (swapT (rndsT S J p R)) R=swapT p:=by
 rw [rndsT_back S hS hO J n p R hp R (Nat.le_refl _),Nat.sub_self];rfl
end
def numN(n:Nat):Int:=if n<16 then 7 else 6
def ordN(back:Bool)(R k:Nat):Nat:=if back=true then R-1-k else k
section
variable (F:Int→Int→List Byte→List Byte) (h:List Byte)
def pairT(m:List Byte):List Byte×List Byte:=(halvesL m 0 m.length,halvesL m m.length m.length)
def midT(back:Bool)(m:List Byte):List Byte×List Byte:=rndsT (stepL F h (numN m.length)) (ordN back (roundsN m.length)) (pairT m) (roundsN m.length)
def tinyL(back:Bool)(m:List Byte):List Byte:=
 if back=true then joinN ((midT F h true (flipL F h m)).2++(midT F h true (flipL F h m)).1)
 else flipL F h (joinN ((midT F h false m).2++(midT F h false m).1))
theorem pairT_two(m:List Byte):TwoN m.length (pairT m):=⟨halvesL_length _ _ _,halvesL_length _ _ _,halvesL_ok _ _ _,halvesL_ok _ _ _⟩
theorem midT_two(back:Bool)(m:List Byte):TwoN m.length (midT F h back m):=rndsT_two _ (stepL_length F h _) (stepL_ok F h _) _ _ _ (pairT_two m) _
theorem join_two(p:List Byte×List Byte)(n:Nat)(hp:TwoN n p):(joinN (p.2++p.1)).length=n:=by
 rw [joinN_length,List.length_append,hp.l,hp.r];omega
theorem pair_join(p:List Byte×List Byte)(n:Nat)(hp:TwoN n p):pairT (joinN (p.2++p.1))=swapT p:=by
 rw [pairT,join_two p n hp,halves_left _ _ hp.ro n hp.r,halves_right _ _ hp.lo n hp.r hp.l];rfl
theorem tinyL_length(back:Bool)(m:List Byte):(tinyL F h back m).length=m.length:=by
 unfold tinyL
 split
 · rw [join_two _ _ (midT_two F h true _),flipL_length]
 · rw [flipL_length,join_two _ _ (midT_two F h false _)]
theorem midT_back(back:Bool)(m:List Byte):midT F h (!back) (joinN ((midT F h back m).2++(midT F h back m).1))=swapT (pairT m):=by
 have h2:=midT_two F h back m
 have hl:=join_two _ _ h2
 rw [midT,pair_join _ _ h2,hl,midT]
 rw [←rndsT_all (stepL F h (numN m.length)) (stepL_length F h _) (stepL_ok F h _) (ordN back (roundsN m.length)) m.length (pairT m) (roundsN m.length) (pairT_two m)]
 refine rndsT_ext _ _ _ _ _ fun i hi=> ?_
 cases back
 · show roundsN m.length-1-i=roundsN m.length-1-i;rfl
 · show i=roundsN m.length-1-(roundsN m.length-1-i);omega
theorem tinyL_back(back:Bool)(m:List Byte):tinyL F h (!back) (tinyL F h back m)=m:=by
 cases back with
 | false=>
   show joinN ((midT F h true (flipL F h (flipL F h (joinN ((midT F h false m).2++(midT F h false m).1))))).2++(midT F h true (flipL F h (flipL F h (joinN ((midT F h false m).2++(midT F h false m).1))))).1)=m
   rw [flipL_twice,show true= !false from rfl,midT_back]
   exact halves_all m
 | true=>
   show flipL F h (joinN ((midT F h false (joinN ((midT F h true (flipL F h m)).2++(midT F h true (flipL F h m)).1))).2++(midT F h false (joinN ((midT F h true (flipL F h m)).2++(midT F h true (flipL F h m)).1))).1))=m
   rw [show false= !true from rfl,midT_back]
   show flipL F h (joinN (halvesL _ 0 _++halvesL _ _ _))=m
   rw [halves_all,flipL_twice]
end
def cntG(P:List Byte)(j:Nat):List Byte:=tab 16 fun q=>if 16-j≤q then nth P (15-q)else 0#8
theorem cntG_length(P:List Byte)(j:Nat):(cntG P j).length=16:=tab_length
theorem cntG_zero(P:List Byte):cntG P 0=zer 16:=nth_ext (by rw [cntG_length,zer_length]) fun i hi=>by
 rw [cntG_length]at hi
 rw [cntG,nth_tab hi,if_neg (by omega),zer,nth_tab hi];rfl
theorem cntG_step(P:List Byte)(j:Nat)(hj:j<8):setN (cntG P j) (15-j) (nth P j)=cntG P (j+1):=nth_ext (by rw [setN_length,cntG_length,cntG_length]) fun i hi=>by
 rw [setN_length,cntG_length]at hi
 rw [nth_set (by rw [cntG_length];exact hi),cntG,cntG,nth_tab hi,nth_tab hi]
 by_cases e:15-j=i
 · rw [if_pos e,if_pos (by omega),show 15-i=j by omega]
 · rw [if_neg e]
   by_cases e2:16-j≤i
   · rw [if_pos e2,if_pos (by omega)]
   · rw [if_neg e2,if_neg (by omega)]
theorem cntG_all(n:Nat):cntG (putL (BitVec.ofNat 64 n) 8) 8=cntB n:=rfl
theorem tcounted_any(n:Nat)(hn:n≤9223372036854775807)(w0:World):Gives Tryz.prog 203 #[.int .i64 n] w0 (A8 (cntB n)):=by
 unfold Gives
 have hm:=Own.start w0
 have cp:=fun w=>putlong_any' (BitVec.ofNat 64 n) w
 rw [←natv64 (show n<18446744073709551616 by omega)]at cp
 have CP:=Lib.hid cp
 have lP:(putL (BitVec.ofNat 64 n) 8).length=8:=putL_length _ _
 have E0:=Lib.hid (cntG_zero (putL (BitVec.ofNat 64 n) 8))
 have ES:=Lib.hid (cntG_step (putL (BitVec.ofNat 64 n) 8))
 have EA:=Lib.hid (cntG_all n)
 have lC:=Lib.hid (cntG_length (putL (BitVec.ofNat 64 n) 8))
 have lR:=cntB_length n
 clear cp
 generalize putL (BitVec.ofNat 64 n) 8=P at*
 generalize cntB n=D at*
 go_enter Tryz.func203,Tryz.ntmps203
 go_wp2_with (first|(go_at_call 43;(with_reducible refine(CP.out _).mono ?_);rintro e_ w ⟨rfl,hx_⟩;replace hm:=hm.ext hx_;clear hx_)|((first|((with_reducible show qAl);first|((with_reducible apply wq_new hm);exact rfl;infer_instance)));clear hm;(first|(have hx_:=g1;clear hx_;(first|(have hx_:=g2;clear hx_;intro gx_)|intro g2))|intro g1);intro w hm))
 rw [←E0.out]at hm
 go_loopw [9] (fun i wr=>∃j:Nat,j≤8∧i= .int .i64 j∧Own w0 wr [⟨g2,68,(cntG P j).map v8⟩,⟨g1,68,(cntG P 0).map v8⟩]) (fun i _=>8-(intOf i).toNat)
 case atStart=>exact⟨0,by omega,rfl,by rw [E0.out]at hm⊢;exact hm⟩
 case round=>
   obtain⟨j,hj,rfl,hm⟩:=hrel
   have lj:=lC.out j
   have l0:=lC.out 0
   by_cases hjl:j<8
   · have hj1:decide ((j:Int)<8)=true:=decide_eq_true (by omega)
     have hj2:(j:Int)<8:=by omega
     obtain⟨k,hk⟩:∃k:Nat,k=15-j:=⟨_,rfl⟩
     have hk1:(15:Int)-(j:Int)=(k:Int):=by omega
     have hk2:k<16:=by omega
     have es:=ES.out j hjl
     rw [←hk]at es
     have HES:=Lib.hid es
     clear es hk
     generalize hC2:cntG P (j+1)=C2 at*
     generalize cntG P 0=C0 at*
     generalize cntG P j=C at*
     have HC2:=Lib.hid hC2
     clear hC2
     go_wp2_with (first|((with_reducible apply wq_idx (l:=P) (k:=j) Tryz.underlying94);infer_instance;exact rfl;exact rfl;exact rfl;exact lP;exact hjl)|((((with_reducible show qSt);first|((with_reducible apply wq_stv hm);exact rfl;infer_instance;exact rfl;(focus ((repeat (first|exact .hd|assumption|apply Swap.tl|apply Swap.app));done));infer_instance;exact rfl;(focus (first|omega|(simp;omega)|(refine ltB ?_;first|omega|(simp;done)|(simp;omega)))))));clear hm;intro w hm))
     go_roundw
     case rel=>
       rw [HES.out]at hm
       exact⟨j+1,by omega,by go_num,by rw [HC2.out];exact hm⟩
     case measure=>simp [intOf]<;>omega
   · obtain rfl:j=8:=by omega
     have hj1:decide (((8:Nat):Int)<8)=false:=decide_eq_false (by omega)
     rw [EA.out]at hm lj
     generalize cntG P 0=C0 at*
     go_wp2_with (first|((with_reducible show qLd);first|((with_reducible apply wq_ldW hm);exact rfl;infer_instance;exact rfl;(focus ((repeat (first|exact .hd|assumption|apply Has.tl|apply Has.app));done));(focus (first|rfl|omega|(simp;done)|(simp;omega)))))|((((with_reducible show qSt);first|((with_reducible apply wq_stW hm);exact rfl;infer_instance;exact rfl;exact rfl;(focus ((repeat (first|exact .hd|assumption|apply Swap.tl|apply Swap.app));done));(focus (first|rfl|omega|(simp;done)|(simp;omega)));(focus (first|rfl|omega|(simp;done)|(simp;omega)));(focus (first|exact one_map _|(simp [one8,one32,one64];done))))));clear hm;intro w hm))
     refine rtO hm rfl rfl (hR:=⟨rfl,hm.x⟩)
def roundsI(n:Int):Int:=if n<1∨31<n then 0 else if n=1 then 24 else if n=2 then 16 else if n<16 then 10 else 8
theorem rounds_any(n:Int)(w0:World):Calls Tryz.prog 186 #[.int .i64 n] w0 fun e w'=>e= .returned (.int .i64 (roundsI n))∧w'=w0:=by
 by_cases h1:n<1
 · have a1:decide (n<1)=true:=decide_eq_true h1
   have e:roundsI n=0:=if_pos (.inl h1)
   rw [e]
   go_enter Tryz.func186,Tryz.ntmps186
   go_wp2
   go_ret
   exact⟨rfl,rfl⟩
 have a1:decide (n<1)=false:=decide_eq_false h1
 by_cases h2:31<n
 · have a2:decide (31<n)=true:=decide_eq_true h2
   have e:roundsI n=0:=if_pos (.inr h2)
   rw [e]
   go_enter Tryz.func186,Tryz.ntmps186
   go_wp2
   go_ret
   exact⟨rfl,rfl⟩
 have a2:decide (31<n)=false:=decide_eq_false h2
 have e0:roundsI n=if n=1 then 24 else if n=2 then 16 else if n<16 then 10 else 8:=if_neg (by omega)
 by_cases h3:n=1
 · subst h3
   have e:roundsI 1=24:=by decide
   rw [e]
   clear h1 h2 a1 a2 e0
   go_enter Tryz.func186,Tryz.ntmps186
   go_wp2
   go_ret
   exact⟨rfl,rfl⟩
 by_cases h4:n=2
 · subst h4
   have e:roundsI 2=16:=by decide
   rw [e]
   clear h1 h2 h3 a1 a2 e0
   go_enter Tryz.func186,Tryz.ntmps186
   go_wp2
   go_ret
   exact⟨rfl,rfl⟩
 rw [if_neg h3,if_neg h4]at e0
 have a3:(n==1)=false:=by rw [beq_eq_false_iff_ne];exact h3
 have a4:(n==2)=false:=by rw [beq_eq_false_iff_ne];exact h4
 by_cases h5:n<16
 · have a5:decide (n<16)=true:=decide_eq_true h5
   rw [if_pos h5]at e0
   rw [e0]
   go_enter Tryz.func186,Tryz.ntmps186
   go_wp2
   go_ret
   exact⟨rfl,rfl⟩
 · have a5:decide (n<16)=false:=decide_eq_false h5
   rw [if_neg h5]at e0
   rw [e0]
   go_enter Tryz.func186,Tryz.ntmps186
   go_wp2
   go_ret
   exact⟨rfl,rfl⟩
theorem clone_sl(l:List Byte)(p:Option Addr)(c:Nat)(w0:World)(hl:RdB w0 p l)(hb:l.length≤70368744177000):Calls Tryz.prog 34 #[.slice p l.length c] w0 fun e w'=>∃v M,e= .returned v∧SlO M 5 1 v l.length (l.map v8)∧Own w0 w' M:=by
 have hm:=Own.start w0
 cases p with
 | none=>
   have e1:=fun c w=>eq_nil8 none 0 c w
   obtain rfl:l=[]:=by
     rcases Nat.eq_zero_or_pos l.length with h|h
     · exact List.length_eq_zero_iff.1 h
     · have:=hl.1 h;simp at this
   clear hl
   simp only [List.length_nil]
   go_enter Tryz.func34,Tryz.ntmps34
   go_wp2
   go_ret
   exact⟨_,[],rfl,SlO.nil _ _,hm⟩
 | some a=>
   have HL:=Lib.hid hl
   have FIT:=Lib.hid (show(0+l.length)*(1+1)≤140737488355328 by omega)
   have LY:=Lib.hid (show(l.map v8).length=l.length*1 by simp)
   clear hl
   have e1:=fun n c w=>eq_nil8 (some a) n c w
   go_enter Tryz.func34,Tryz.ntmps34
   go_wp2_with (first|((with_reducible apply wq_bs0 bs0_b hm);exact rfl;clear hm;intro gz w hm)|((with_reducible show wpList _ _ _ (Oper.mk _ (Op.call _) _ _ _ _::_) _ _);refine wplO_app (M:=[⟨gz,5,[]⟩]) (R:=[]) (ds:=l.map v8) hm (slo_room0 gz _ 1) rfl rfl rfl rfl Tryz.underlying22 LY.out (cellsB (HL.out.ext hm.x)) (one_map _) FIT.out ?_;clear hm;intro v1 w M1 hm hs1;obtain⟨p_v1,c_v1,rfl⟩:=hs1.form;simp only [Nat.zero_add,List.nil_append]at hs1⊢))
   go_ret
   exact⟨_,M1,rfl,hs1,by simpa using hm⟩
theorem zeros_part(n:Nat)(f:Nat→Byte):zeros n=part n 0 f (fun _=>0#8):=nth_ext (by rw [zeros_length,part_length]) fun i hi=>by
 rw [zeros_length]at hi
 rw [nth_part_ge hi (Nat.zero_le _)]
 simp [zeros,nth,hi]
theorem nib_even(b:List Byte)(k q:Nat)(hq:k=2*q):nibL b k=(nth b q>>>4)&&&15#8:=by
 subst hq
 rw [nibL,show 2*q/2=q by omega,show 2*q%2=0 by omega]
theorem nib_odd(b:List Byte)(k q:Nat)(hq:k=2*q+1):nibL b k=nth b q&&&15#8:=by
 subst hq
 rw [nibL,show(2*q+1)/2=q by omega,show(2*q+1)%2=1 by omega]
 show(nth b q>>>0)&&&15#8=_
 rw [BitVec.ushiftRight_zero]
theorem halves_new(l:List Byte)(p:Option Addr)(c:Nat)(fb n fc k B:Nat)(hn:FlIn fb n B (2*l.length))(hk:FlIn fc k B (2*l.length))(h:n+k≤2*l.length)(hl:l.length≤1000)(w0:World)(hr:RdB w0 p l):
   Calls Tryz.prog 202 #[.slice p l.length c, .complex .f64 fb fc] w0 fun e w'=>∃g,e= .returned (.tuple #[.slice (some ⟨g,0,none⟩) k k, .bool true])∧Own w0 w' [⟨g,5,(halvesL l n k).map v8⟩]:=by
 have hm:=Own.start w0
 have W1:=Lib.hid fun w=>show Calls Tryz.prog 132 #[.complex .f64 fb fc, .int .i64 (2*(l.length:Int))] w fun e w'=>e= .returned (.tuple #[.int .i64 (n:Int), .int .i64 (k:Int), .bool true])∧Ext w w' from by
   have:=whole_any fb n fc k B (2*l.length) hn hk h (by omega) w
   rwa [show((2*l.length:Nat):Int)=2*(l.length:Int)by omega]at this
 have b1:2*(l.length:Int)≤9223372036854775807:=by omega
 have HR:=Lib.hid hr
 have EZ:=Lib.hid (zeros_part k fun i=>nibL l (n+i))
 have EE:Hid (part k k (fun i=>nibL l (n+i)) (fun _=>0#8)=halvesL l n k):=Lib.hid part_all
 clear hn hk hr
 go_enter Tryz.func202,Tryz.ntmps202
 go_wp2_with (first|(go_at_call 132;(with_reducible refine(W1.out _).mono ?_);rintro e_ w ⟨rfl,hx_⟩;replace hm:=hm.ext hx_;clear hx_)|((with_reducible apply wq_mkR k k hm);exact rfl;exact rfl;exact rfl;exact rfl;(focus omega);(focus omega);(focus omega);clear hm;intro g1 w hm))
 rw [EZ.out]at hm
 go_loopw [27] (fun i wr=>∃j:Nat,j≤k∧i= .int .i64 j∧Own w0 wr [⟨g1,5,(part k j (fun i=>nibL l (n+i)) (fun _=>0#8)).map v8⟩]) (fun i _=>k-(intOf i).toNat)
 case atStart=>exact⟨0,by omega,rfl,hm⟩
 case round=>
   obtain⟨j,hj,rfl,hm⟩:=hrel
   by_cases hlt:j<k
   · have hd:decide ((j:Int)<(k:Int))=true:=decide_eq_true (by omega)
     have hd2:(j:Int)<(k:Int):=by omega
     obtain⟨J,hJ⟩:∃J,J=n+j:=⟨_,rfl⟩
     obtain⟨q,hq⟩:∃q,q=J/2:=⟨_,rfl⟩
     have x1:(n:Int)+(j:Int)=(J:Int):=by omega
     have x2:(J:Int)/2=(q:Int):=by omega
     have x3:(J:Int).tdiv 2=(q:Int):=by rw [Int.tdiv_eq_ediv_of_nonneg (by omega)];exact x2
     have hc:=(HR.out.ext hm.x).at q (by omega)
     obtain⟨a,rfl⟩:=Option.isSome_iff_exists.1 (HR.out.1 (by omega))
     simp only [Option.getD_some]at hc
     rw [show l.getD q 0=nth l q from rfl]at hc
     have x4:q<l.length:=by omega
     have x5:(q:Int)<(l.length:Int):=by omega
     have EJ:Hid (setN (part k j (fun i=>nibL l (n+i)) (fun _=>0#8)) j (nibL l J)=part k (j+1) (fun i=>nibL l (n+i)) (fun _=>0#8)):=Lib.hid (by rw [hJ];exact part_set (f:=fun i=>nibL l (n+i)) hlt)
     have lJ:(part k j (fun i=>nibL l (n+i)) (fun _=>0#8)).length=k:=part_length
     generalize part k j (fun i=>nibL l (n+i)) (fun _=>0#8)=C at*
     rcases Nat.mod_two_eq_zero_or_one J with hp|hp
     · have y1:(J:Int)%2=0:=by omega
       have y2:(J:Int).tmod 2=0:=by rw [Int.tmod_eq_emod_of_nonneg (by omega)];exact y1
       have eN:=Lib.hid (nib_even l J q (by omega))
       clear hp hq hJ
       go_wp2_with (first|((((with_reducible show qSt);first|((with_reducible apply wq_stv hm);exact rfl;infer_instance;exact rfl;(focus ((repeat (first|exact .hd|assumption|apply Swap.tl|apply Swap.app));done));infer_instance;exact rfl;(focus (first|omega|(simp;omega)|(refine ltB ?_;first|omega|(simp;done)|(simp;omega)))))));clear hm;intro w hm))
       go_roundw
       case rel=>rw [←eN.out,EJ.out]at hm;exact⟨j+1,by omega,by go_num,hm⟩
       case measure=>simp [intOf]<;>omega
     · have y1:(J:Int)%2=1:=by omega
       have y2:(J:Int).tmod 2=1:=by rw [Int.tmod_eq_emod_of_nonneg (by omega)];exact y1
       have eN:=Lib.hid (nib_odd l J q (by omega))
       clear hp hq hJ
       go_wp2_with (first|((((with_reducible show qSt);first|((with_reducible apply wq_stv hm);exact rfl;infer_instance;exact rfl;(focus ((repeat (first|exact .hd|assumption|apply Swap.tl|apply Swap.app));done));infer_instance;exact rfl;(focus (first|omega|(simp;omega)|(refine ltB ?_;first|omega|(simp;done)|(simp;omega)))))));clear hm;intro w hm))
       go_roundw
       case rel=>rw [←eN.out,EJ.out]at hm;exact⟨j+1,by omega,by go_num,hm⟩
       case measure=>simp [intOf]<;>omega
   · obtain rfl:j=k:=by omega
     have hd:decide ((j:Int)<(j:Int))=false:=decide_eq_false (by omega)
     rw [EE.out]at hm
     go_wp2_with fail
     go_ret2
     exact⟨g1,rfl,hm⟩
def joinG(hs:List Byte)(i:Nat):List Byte:=tab ((hs.length+1)/2) fun q=>(if 2*q<i then(nth hs (2*q)&&&15#8)<<<4 else 0#8)|||(if 2*q+1<i then nth hs (2*q+1)&&&15#8 else 0#8)
theorem joinG_length(hs:List Byte)(i:Nat):(joinG hs i).length=(hs.length+1)/2:=tab_length
theorem joinG_zero(hs:List Byte):zeros ((hs.length+1)/2)=joinG hs 0:=nth_ext (by rw [zeros_length,joinG_length]) fun i hi=>by
 rw [zeros_length]at hi
 rw [joinG,nth_tab hi,if_neg (by omega),if_neg (by omega)]
 simp [zeros,nth,hi]
theorem joinG_all(hs:List Byte):joinG hs hs.length=joinN hs:=nth_ext (by rw [joinG_length,joinN_length]) fun i hi=>by
 rw [joinG_length]at hi
 rw [joinG,joinN,nth_tab hi,nth_tab hi,if_pos (by omega)]
 by_cases e:2*i+1<hs.length
 · rw [if_pos e]
 · rw [if_neg e,nth_ge (l:=hs) (i:=2*i+1) (by omega)];rfl
theorem joinG_even(hs:List Byte)(i q:Nat)(hi:i<hs.length)(hq:i=2*q):setN (joinG hs i) q (nth (joinG hs i) q|||((nth hs i&&&15#8)<<<4))=joinG hs (i+1):=nth_ext (by rw [setN_length,joinG_length,joinG_length]) fun j hj=>by
 rw [setN_length,joinG_length]at hj
 subst hq
 rw [nth_set (by rw [joinG_length];exact hj),joinG,joinG,nth_tab hj,nth_tab (by omega),nth_tab hj]
 by_cases e:q=j
 · subst e
   rw [if_pos rfl,if_neg (by omega),if_neg (by omega),if_pos (by omega),if_neg (by omega)]
   simp
 · rw [if_neg e]
   congr 1
   · by_cases h:2*j<2*q
     · rw [if_pos h,if_pos (by omega)]
     · rw [if_neg h,if_neg (by omega)]
   · by_cases h:2*j+1<2*q
     · rw [if_pos h,if_pos (by omega)]
     · rw [if_neg h,if_neg (by omega)]
theorem joinG_odd(hs:List Byte)(i q:Nat)(hi:i<hs.length)(hq:i=2*q+1):setN (joinG hs i) q (nth (joinG hs i) q|||(nth hs i&&&15#8))=joinG hs (i+1):=nth_ext (by rw [setN_length,joinG_length,joinG_length]) fun j hj=>by
 rw [setN_length,joinG_length]at hj
 subst hq
 rw [nth_set (by rw [joinG_length];exact hj),joinG,joinG,nth_tab hj,nth_tab (by omega),nth_tab hj]
 by_cases e:q=j
 · subst e
   rw [if_pos rfl,if_pos (by omega),if_neg (by omega),if_pos (by omega),if_pos (by omega)]
   simp
 · rw [if_neg e]
   congr 1
   · by_cases h:2*j<2*q+1
     · rw [if_pos h,if_pos (by omega)]
     · rw [if_neg h,if_neg (by omega)]
   · by_cases h:2*j+1<2*q+1
     · rw [if_pos h,if_pos (by omega)]
     · rw [if_neg h,if_neg (by omega)]
theorem join_new(l:List Byte)(p:Option Addr)(c:Nat)(hl:l.length≤1000)(w0:World)(hr:RdB w0 p l):
   Calls Tryz.prog 190 #[.slice p l.length c] w0 fun e w'=>∃g,e= .returned (.slice (some ⟨g,0,none⟩) ((l.length+1)/2) ((l.length+1)/2))∧Own w0 w' [⟨g,5,(joinN l).map v8⟩]:=by
 have hm:=Own.start w0
 have HR:=Lib.hid hr
 have EZ:=Lib.hid (joinG_zero l)
 have EA:=Lib.hid (joinG_all l)
 have E0:=Lib.hid (joinG_even l)
 have E1:=Lib.hid (joinG_odd l)
 have lG:=Lib.hid (joinG_length l)
 obtain⟨m,hm2⟩:∃m,m=(l.length+1)/2:=⟨_,rfl⟩
 have x1:((l.length:Int)+1)/2=(m:Int):=by omega
 have x2:((l.length:Int)+1).tdiv 2=(m:Int):=by rw [Int.tdiv_eq_ediv_of_nonneg (by omega)];exact x1
 rw [←hm2]at EZ lG⊢
 have HM:=Lib.hid hm2
 have m1:m≤1000:=by omega
 clear hr hm2
 go_enter Tryz.func190,Tryz.ntmps190
 go_wp2_with (first|((with_reducible apply wq_mkR m m hm);exact rfl;exact rfl;exact rfl;exact rfl;(focus omega);(focus omega);(focus omega);clear hm;intro g1 w hm))
 rw [EZ.out]at hm
 go_loopw [13] (fun i wr=>∃j:Nat,j≤l.length∧i= .int .i64 j∧Own w0 wr [⟨g1,5,(joinG l j).map v8⟩]) (fun i _=>l.length-(intOf i).toNat)
 case atStart=>exact⟨0,by omega,rfl,hm⟩
 case round=>
   obtain⟨j,hj,rfl,hm⟩:=hrel
   have lj:=lG.out j
   by_cases hlt:j<l.length
   · have hd:decide ((j:Int)<(l.length:Int))=true:=decide_eq_true (by omega)
     have hd2:(j:Int)<(l.length:Int):=by omega
     have hc:=(HR.out.ext hm.x).at j hlt
     obtain⟨a,rfl⟩:=Option.isSome_iff_exists.1 (HR.out.1 (by omega))
     simp only [Option.getD_some]at hc
     rw [show l.getD j 0=nth l j from rfl]at hc
     obtain⟨q,hq⟩:∃q,q=j/2:=⟨_,rfl⟩
     have y3:(j:Int)/2=(q:Int):=by omega
     have y4:(j:Int).tdiv 2=(q:Int):=by rw [Int.tdiv_eq_ediv_of_nonneg (by omega)];exact y3
     have y5:q<m:=by have:=HM.out;omega
     have y6:(q:Int)<(m:Int):=by omega
     rcases Nat.mod_two_eq_zero_or_one j with hp|hp
     · have y1:(j:Int)%2=0:=by omega
       have y2:(j:Int).tmod 2=0:=by rw [Int.tmod_eq_emod_of_nonneg (by omega)];exact y1
       have eN:=Lib.hid (E0.out j q hlt (by omega))
       clear hp hq
       generalize hG2:joinG l (j+1)=G2 at*
       generalize joinG l j=G1 at*
       have HG2:=Lib.hid hG2
       clear hG2
       go_wp2_with fail
       refine region_at 14 (fun w'=>Ext _ w') 34 (by kernel_rfl) (by kernel_rfl) rfl (fun _ _ h k=>h.trans k) (drew_ext _) ?_
       simp only [tSC,List.take_zero,dSC,List.drop_zero,List.map_cons,List.map_nil]
       repeat (first
           | (apply walk_is rfl rfl rfl
              · (intro wx hwx;first|((with_reducible show gives _ _ _ (Sem.run _ (execOp _ (Oper.mk _ (Op.load _ _) _ _ _ _)) _));first|((with_reducible apply gq_ldv (hm.ext hwx));infer_instance;exact rfl;(focus ((repeat (first|exact .hd|assumption|apply Has.tl|apply Has.app));done));(focus (first|omega|(simp;omega)|(refine ltB ?_;first|omega|(simp;done)|(simp;omega))))))|(go_simp;(try go_bits);first|exact gives_same|exact gives_skip))
              · (simp only [Act.put,sIB,sCS,sCZ];rfl))
           | (apply walk_not rfl rfl rfl
              · (simp only [Act.put,sIB,sCS,sCZ];rfl)))
       intro wz hwz
       simp only [zCC,zNR]
       repeat (first|rw [fin_is]|(rw [fin_cons];intro _ _))
       rw [fin_nil]
       try (replace hm:=hm.ext hwz)
       simp only [Act.put,sIB,sCS,sCZ]
       go_wp2_with (first|((((with_reducible show qSt);first|((with_reducible apply wq_stv hm);exact rfl;infer_instance;exact rfl;(focus ((repeat (first|exact .hd|assumption|apply Swap.tl|apply Swap.app));done));infer_instance;exact rfl;(focus (first|omega|(simp;omega)|(refine ltB ?_;first|omega|(simp;done)|(simp;omega)))))));clear hm;intro w hm))
       go_roundw
       case rel=>rw [eN.out]at hm;exact⟨j+1,by omega,by go_num,by rw [HG2.out];exact hm⟩
       case measure=>simp [intOf]<;>omega
     · have y1:(j:Int)%2=1:=by omega
       have y2:(j:Int).tmod 2=1:=by rw [Int.tmod_eq_emod_of_nonneg (by omega)];exact y1
       have eN:=Lib.hid (E1.out j q hlt (by omega))
       clear hp hq
       generalize hG2:joinG l (j+1)=G2 at*
       generalize joinG l j=G1 at*
       have HG2:=Lib.hid hG2
       clear hG2
       go_wp2_with fail
       refine region_at 14 (fun w'=>Ext _ w') 34 (by kernel_rfl) (by kernel_rfl) rfl (fun _ _ h k=>h.trans k) (drew_ext _) ?_
       simp only [tSC,List.take_zero,dSC,List.drop_zero,List.map_cons,List.map_nil]
       repeat (first
           | (apply walk_is rfl rfl rfl
              · (intro wx hwx;first|((with_reducible show gives _ _ _ (Sem.run _ (execOp _ (Oper.mk _ (Op.load _ _) _ _ _ _)) _));first|((with_reducible apply gq_ldv (hm.ext hwx));infer_instance;exact rfl;(focus ((repeat (first|exact .hd|assumption|apply Has.tl|apply Has.app));done));(focus (first|omega|(simp;omega)|(refine ltB ?_;first|omega|(simp;done)|(simp;omega))))))|(go_simp;(try go_bits);first|exact gives_same|exact gives_skip))
              · (simp only [Act.put,sIB,sCS,sCZ];rfl))
           | (apply walk_not rfl rfl rfl
              · (simp only [Act.put,sIB,sCS,sCZ];rfl)))
       intro wz hwz
       simp only [zCC,zNR]
       repeat (first|rw [fin_is]|(rw [fin_cons];intro _ _))
       rw [fin_nil]
       try (replace hm:=hm.ext hwz)
       simp only [Act.put,sIB,sCS,sCZ]
       go_wp2_with (first|((((with_reducible show qSt);first|((with_reducible apply wq_stv hm);exact rfl;infer_instance;exact rfl;(focus ((repeat (first|exact .hd|assumption|apply Swap.tl|apply Swap.app));done));infer_instance;exact rfl;(focus (first|omega|(simp;omega)|(refine ltB ?_;first|omega|(simp;done)|(simp;omega)))))));clear hm;intro w hm))
       go_roundw
       case rel=>rw [eN.out]at hm;exact⟨j+1,by omega,by go_num,by rw [HG2.out];exact hm⟩
       case measure=>simp [intOf]<;>omega
   · obtain rfl:j=l.length:=by omega
     have hd:decide ((l.length:Int)<(l.length:Int))=false:=decide_eq_false (by omega)
     rw [EA.out]at hm
     go_wp2_with fail
     go_ret
     exact⟨g1,rfl,hm⟩
end Go.Proofs.YtllnjbiebdkmbaaGreatDoor
