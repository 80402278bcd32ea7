/-
  Texts of the program, walked, and plain ones. Conditions: those written in each theorem.
-/
import Derived.Test.YtllnjbiebdkmbaaGreatDoorZTopReturns0
import Derived.Test.YtllnjbiebdkmbaaGreatDoorZTopReturns24
import Derived.Test.YtllnjbiebdkmbaaGreatDoorZTopReturns26
import Derived.Test.YtllnjbiebdkmbaaGreatDoorZTopReturns29
import Derived.Test.YtllnjbiebdkmbaaGreatDoorZTopReturns13
import Derived.Test.YtllnjbiebdkmbaaGreatDoorZTopReturns12
import Derived.Test.YtllnjbiebdkmbaaGreatDoorZTopReturns8
import Derived.Test.YtllnjbiebdkmbaaGreatDoorZTopReturns7
import Derived.Test.YtllnjbiebdkmbaaGreatDoorZTopReturns6
set_option linter.unusedSimpArgs false
set_option linter.unusedVariables false
set_option maxHeartbeats 16000000
namespace Go.Proofs.YtllnjbiebdkmbaaGreatDoor
open Go Go.RowKit
set_option maxRecDepth 100000
section
variable {P:Program} {ops:Array Oper} {Q:Exit→Act→World→Prop} {rest:List Oper} {a:Act} {w0 w:World} {L:List Blk} {dst:Option Tmp} {T e ty:TypeId} {pos:String} {aft:Array Edge} {gd:Option (Nat×Bool)}
theorem wq_bs1g {u0:Value}{x0:Operand}{cs:List Value}(hb:∀w,(Instr.buildSlice T 1 #[(0,u0)]).run P w= .ok (.slice (some ⟨w.heap.size,0,none⟩) 1 1) (w.alloc (.cells cs.toArray e)))(hm:Own w0 w L)(hgd:Region.wanted (Oper.mk dst (.buildSlice T 1 #[(0,x0)]) ty pos aft gd) (yielded ops a.tmps)=true)(hx0:a.eval x0=u0)(hr:∀g w',Own w0 w' (⟨g,e,cs⟩::L)→wpList P ops Q rest (a.put dst (.slice (some ⟨g,0,none⟩) 1 1)) w'):wpList P ops Q ((Oper.mk dst (.buildSlice T 1 #[(0,x0)]) ty pos aft gd)::rest) a w:=
 wpList_want hgd fun K hK=>by
   unfold Oper.wp execOp
   simp [hx0,hb,Sem.run_bind,Result.andThen_ok,Sem.run_pure]
   exact hK _ _ (hr _ _ (hm.alloc e cs))
end
theorem bs_s1(p:Option Addr)(n c:Nat)(w:World):(Instr.buildSlice 26 1 #[(0, .slice p n c)]).run Tryz.prog w= .ok (.slice (some ⟨w.heap.size,0,none⟩) 1 1) (w.alloc (.cells [.slice p n c].toArray 22)):=by kernel_rfl
theorem rdR1 {w:World}{g:Nat}{t:TypeId}{p:Option Addr}{a:List Byte}{c:Nat}(h:Row w g t [.slice p a.length c])(ha:RdB w p a)(hc:a.length≤c)(la:a.length≤maxLen):RdR w (some ⟨g,0,none⟩) [a]:=by
 refine⟨fun _=>rfl,fun i hi=> ?_⟩
 have hcell:∀k,w.cell? (((some (⟨g,0,none⟩:Addr)).getD default).add k)=w.cell? ⟨g,k,none⟩:=fun k=>by rw [show((some (⟨g,0,none⟩:Addr)).getD default).add k=⟨g,k,none⟩from by simp [Addr.add];exact fun h=>h.symm]
 match i,hi with
 |0,_=>exact⟨p,c,(hcell 0).trans (row_cell h 0),ha,hc,la⟩
def aezL(key t m:List Byte):List Byte:=tinyL (eZ (keyOf key)) (hashG (eZ (keyOf key)) [t]) false m
theorem aezL_length(key t m:List Byte):(aezL key t m).length=m.length:=tinyL_length _ _ _ _
theorem ezrow_any(g:Nat)(key t m:List Byte)(h1:1≤m.length)(h31:m.length≤31)(ht:t.length≤500)(q p:Option Addr)(d c:Nat)(hd:1≤d)(hc:m.length≤c)(w0:World)(hk:KeyR w0 g (keyOf key))(hr:RdR w0 q [t])(hq:RdB w0 p m):
   Calls Tryz.prog 182 #[.agg #[.pointer (some ⟨g,0,none⟩)], .slice q 1 d, .slice p m.length c, .bool false] w0 fun e w'=>∃px cx,e= .returned (.tuple #[.slice px m.length cx, .int .i64 0])∧m.length≤cx∧RdB w' px (aezL key t m)∧Ext w0 w':=by
 have hm:=Own.start w0
 have TT:=Lib.hid fun (w:World)(hx:Ext w0 w)=>tturn_fwd g (eZ (keyOf key)) (eZ_length (keyOf key)) [t] q d m p c w (hr.ext hx) hd (show 1≤70368744177000 from by omega) (fun i=>by match i with|0=>exact Nat.le_trans ht (by omega)|i+1=>exact Nat.zero_le _) (hq.ext hx) hc h1 h31 (fun wx hwx j n x e1 e2 e3=>((hk.ext hx).ext hwx).e j n x e1 e2 e3)
 rw [show(tinyL (eZ (keyOf key)) (hashG (eZ (keyOf key)) [t]) false m)=aezL key t m from rfl,show([t]:List (List Byte)).length=1 from rfl]at TT
 have d1:decide ((m.length:Int)<32)=true:=decide_eq_true (by omega)
 have d2:(m.length:Int)<32:=by omega
 obtain⟨X,hX⟩:∃x,x=aezL key t m:=⟨_,rfl⟩
 rw [←hX]at TT⊢
 obtain⟨n,hn⟩:∃x,x=m.length:=⟨_,rfl⟩
 rw [←hn]at TT d1 d2⊢
 clear hX hn hq hr hk h1 h31 hc ht hd
 go_enter Tryz.func182,Tryz.ntmps182
 go_wp2_with (first|((with_reducible apply wq_boxN (cs:=[.pointer (some ⟨g,0,none⟩)]) hm);exact rfl;exact rfl;clear hm;intro gz w hm)|((with_reducible show qLd);first|((with_reducible apply wq_ld1 hm);exact rfl;infer_instance;exact rfl;(focus (repeat first|exact .hd|assumption|apply Has.tl);done);exact rfl)))
 refine(TT.out w hm.x).mono ?_
 rintro e_ w ⟨px,cx,rfl,hcx,hpx,hx_⟩
 replace hm:=hm.ext hx_
 clear hx_
 go_wp2_with fail
 go_ret2
 exact⟨px,cx,rfl,hcx,hpx,hm.x⟩
theorem ezenc_any(g:Nat)(key t m:List Byte)(h1:1≤m.length)(h31:m.length≤31)(ht:t.length≤500)(q p:Option Addr)(d c:Nat)(hd:t.length≤d)(hc:m.length≤c)(w0:World)(hk:KeyR w0 g (keyOf key))(hr:RdB w0 q t)(hq:RdB w0 p m):
   Calls Tryz.prog 181 #[.agg #[.pointer (some ⟨g,0,none⟩)], .slice q t.length d, .slice p m.length c] w0 fun e w'=>∃px cx,e= .returned (.tuple #[.slice px m.length cx, .int .i64 0])∧m.length≤cx∧RdB w' px (aezL key t m)∧Ext w0 w':=by
 have hm:=Own.start w0
 have lt:t.length≤maxLen:=Nat.le_trans ht (by decide)
 have TT:=Lib.hid fun (gr:Nat)(w:World)(hx:Ext w0 w)(hr1:Row w gr 22 [.slice q t.length d])=>ezrow_any g key t m h1 h31 ht (some ⟨gr,0,none⟩) p 1 c (Nat.le_refl _) hc w (hk.ext hx) (rdR1 hr1 (hr.ext hx) hd lt) (hq.ext hx)
 have BS:=Lib.hid (bs_s1 q t.length d)
 obtain⟨X,hX⟩:∃x,x=aezL key t m:=⟨_,rfl⟩
 rw [←hX]at TT⊢
 obtain⟨n,hn⟩:∃x,x=m.length:=⟨_,rfl⟩
 rw [←hn]at TT⊢
 obtain⟨k,hk0⟩:∃x,x=t.length:=⟨_,rfl⟩
 rw [←hk0]at TT BS⊢
 clear hX hn hq hr hk h1 h31 hc ht hd lt hk0
 go_enter Tryz.func181,Tryz.ntmps181
 go_wp2_with (first|((with_reducible apply wq_boxN (cs:=[.pointer (some ⟨g,0,none⟩)]) hm);exact rfl;exact rfl;clear hm;intro gz w hm)|((with_reducible apply wq_bs1g (BS.out) hm);exact rfl;exact rfl;clear hm;intro gb w hm)|((with_reducible show qLd);first|((with_reducible apply wq_ldW hm);exact rfl;infer_instance;exact rfl;(focus (repeat first|exact .hd|assumption|apply Has.tl);done);(focus (first|rfl|omega|(simp;done)|(simp;omega))))))
 refine(TT.out gb w hm.x (hm.row .hd)).mono ?_
 rintro e_ w ⟨px,cx,rfl,hcx,hpx,hx_⟩
 replace hm:=hm.ext hx_
 clear hx_
 go_wp2_with fail
 go_ret2
 exact⟨px,cx,rfl,hcx,hpx,hm.x⟩
def adPk(key:List Byte):AdP:=⟨key,eK0 ((adX key).take 32),eKs ((adX key).take 32),eKl ((adX key).take 32),blk ((adX key).drop 32),blk (((adX key).drop 32).drop 16),nhW (((adX key).drop 32).drop 32)⟩
def wideE(a:Int)(key t m:List Byte):List Byte:=
 if a=1 then adEn (adPk key) t m (m.length-16)else if a=2 then hcDo (eK0 key) (eKs key) (eKl key) (hcH key) (hcL key) (aesE (eK0 key) (eKs key) (eKl key)) t m else aezL key t m
theorem wideE_length(a:Int)(key t m:List Byte)(h:16≤m.length):(wideE a key t m).length=m.length:=by
 unfold wideE
 split
 · rw [adEn_length _ _ _ _ (by omega)];omega
 · split
   · rw [hcDo,List.length_append,bothL_length,hcBulk_length];omega
   · exact aezL_length _ _ _
def CipR(w:World)(g:Nat)(a:Int)(key:List Byte):Prop:=∃gi,
 (a=1∧Row w g 84 [.int .i64 1, .iface 96 (.pointer (some ⟨gi,0,none⟩))]∧AdiP w gi (adPk key))
 ∨(a=2∧Row w g 84 [.int .i64 2, .iface 99 (.pointer (some ⟨gi,0,none⟩))]∧HcR w gi (eK0 key) (eKs key) (eKl key) (hcH key) (hcL key))
 ∨(a=3∧Row w g 84 [.int .i64 3, .iface 106 (.agg #[.pointer (some ⟨gi,0,none⟩)])]∧KeyR w gi (keyOf key))
theorem CipR.ext {w w':World}{g:Nat}{a:Int}{key:List Byte}(h:CipR w g a key)(hx:Ext w w'):CipR w' g a key:=by
 obtain⟨gi,⟨h1,h2,h3⟩|⟨h1,h2,h3⟩|⟨h1,h2,h3⟩⟩:=h
 · exact⟨gi, .inl ⟨h1,row_ext h2 hx,AdiR.ext h3 hx⟩⟩
 · exact⟨gi, .inr (.inl ⟨h1,row_ext h2 hx,h3.ext hx⟩)⟩
 · exact⟨gi, .inr (.inr ⟨h1,row_ext h2 hx,h3.ext hx⟩)⟩
theorem slo_read {w0 w:World}{M R:List Blk}{v:Value}{n:Nat}{X:List Byte}(hm:Own w0 w (M++R))(hs:SlO M 5 1 v n (X.map v8)):∃px cx,v= .slice px n cx∧RdB w px X∧n≤cx:=by
 obtain⟨p,c,rfl⟩:=hs.form
 refine⟨p,c,rfl,slo_rdZ hs hm, ?_⟩
 rcases hs.2 with ⟨_,h1,_⟩|⟨g,o,cap,cur,e1,_,h2,h3⟩
 · omega
 · cases e1;omega
theorem nthP_l(a b:List Byte)(i:Nat)(h:i<a.length):nth (a++b) i=nth a i:=by simp [nth,List.getElem?_append_left h]
theorem nthP_r(a b:List Byte)(i:Nat)(h:a.length≤i):nth (a++b) i=nth b (i-a.length):=by simp [nth,List.getElem?_append_right h]
theorem strF_nth(z:Nat)(hz:0<z)(S:Nat→List Byte)(hS:∀k,(S k).length=z)(b:List Byte)(k i:Nat)(h:i<b.length)(h2:i<z*k):nth (strF z S b k) i=nth b i^^^nth (S (i/z)) (i%z):=by
 induction k with
 |zero=>omega
 | succ k ih=>
   have l:=strF_length z S hS b k
   rw [Nat.mul_succ]at h2
   rw [strF]
   by_cases hk:i<z*k
   · rw [nthP_l _ _ _ (by omega),ih hk]
   · have e1:i/z=k:=by
       rw [Nat.div_eq_iff hz]
       have:=Nat.mul_comm k z
       omega
     have e2:i%z=i-z*k:=by
       have:=Nat.div_add_mod i z
       rw [e1]at this;omega
     have l2:(strF z S b k).length=z*k:=by omega
     rw [nthP_r _ _ _ (by omega),l2,xorL_nth _ _ _ (by rw [xorL_length,hS,List.length_drop];omega),e1,e2]
     congr 1
     simp [nth,List.getElem?_drop,show z*k+(i-z*k)=i by omega]
theorem strL_nth(z:Nat)(hz:0<z)(S:Nat→List Byte)(hS:∀k,(S k).length=z)(b:List Byte)(i:Nat)(h:i<b.length):nth (strL z S b) i=nth b i^^^nth (S (i/z)) (i%z):=
 strF_nth z hz S hS b _ i h (Nat.lt_of_lt_of_le h (strN_le z b.length hz))
theorem strL_twice(z:Nat)(hz:0<z)(S:Nat→List Byte)(hS:∀k,(S k).length=z)(b:List Byte):strL z S (strL z S b)=b:=by
 have l:=strL_length z hz S hS b
 have l2:=strL_length z hz S hS (strL z S b)
 refine nth_ext (by omega) fun i hi=> ?_
 rw [strL_nth z hz S hS _ i (by omega),strL_nth z hz S hS b i (by omega),BitVec.xor_assoc,BitVec.xor_self,BitVec.xor_zero]
theorem num_top(l:List Byte)(a:Int)(m i:Nat)(h:8*m≤i):(num l a m).getLsbD i=false:=by
 induction m with
 |zero=>simp [num]
 | succ m ih=>
   rw [num,BitVec.getLsbD_or,ih (by omega),BitVec.getLsbD_shiftLeft,BitVec.getLsbD_setWidth,Bool.false_or]
   rw [BitVec.getLsbD_of_ge (gb l (a+m)) (i-8*m) (by omega)]
   simp
theorem num_bits(l:List Byte)(a:Int)(m q j:Nat)(hq:q<m)(hm:m≤8)(hj:j<8):(num l a m).getLsbD (8*q+j)=(gb l (a+q)).getLsbD j:=by
 induction m with
 |zero=>omega
 | succ m ih=>
   rw [num,BitVec.getLsbD_or,BitVec.getLsbD_shiftLeft,BitVec.getLsbD_setWidth]
   by_cases h:q<m
   · rw [ih h (by omega),decide_eq_true (show 8*q+j<8*m by omega)]
     simp
   · have e:q=m:=by omega
     subst e
     rw [num_top l a q _ (by omega),decide_eq_true (show 8*q+j<64 by omega),decide_eq_false (show¬8*q+j<8*q by omega),show 8*q+j-8*q=j by omega,decide_eq_true (show j<64 by omega)]
     simp
theorem nth_putN(n:BitVec 64)(q:Nat)(h:q<8):nth (putL n 8) q=(n>>>(8*q)).setWidth 8:=putL_getD n 8 q h
theorem put_num(l:List Byte)(a:Int)(q:Nat)(h:q<8):nth (putL (num l a 8) 8) q=gb l (a+q):=by
 rw [nth_putN _ q h]
 apply BitVec.eq_of_getLsbD_eq
 intro j hj
 rw [BitVec.getLsbD_setWidth,BitVec.getLsbD_ushiftRight,num_bits l a 8 q j h (by omega) hj]
 simp [hj]
theorem wBytes_of(x:List Byte)(h:x.length=16):wBytes (wOf x)=x:=by
 refine nth_ext (by rw [wBytes_length,h]) fun i hi=> ?_
 rw [wBytes_length]at hi
 rw [wBytes,wOf]
 by_cases h8:i<8
 · rw [nthP_l _ _ _ (by rw [putL_length];omega),put_num _ _ _ h8,Int.zero_add]
   exact gb_in x i
 · rw [nthP_r _ _ _ (by rw [putL_length];omega),putL_length,put_num _ _ _ (by omega),show(8:Int)+((i-8:Nat):Int)=((i:Nat):Int)by omega]
   exact gb_in x i
theorem num_of_put(n:BitVec 64)(l:List Byte)(a:Nat)(h:∀q,q<8→nth l (a+q)=(n>>>(8*q)).setWidth 8):num l (a:Int) 8=n:=by
 apply BitVec.eq_of_getLsbD_eq
 intro i hi
 have e:i=8*(i/8)+i%8:=(Nat.div_add_mod i 8).symm
 rw [e,num_bits l a 8 (i/8) (i%8) (by omega) (by omega) (by omega),show(a:Int)+((i/8:Nat):Int)=((a+i/8:Nat):Int)by omega,gb_in]
 have:=h (i/8) (by omega)
 rw [nth]at this
 rw [this,BitVec.getLsbD_setWidth,BitVec.getLsbD_ushiftRight,decide_eq_true (show i%8<8 by omega),Bool.true_and]
theorem wOf_bytes(x:WW):wOf (wBytes x)=x:=by
 obtain⟨a,b⟩:=x
 rw [wBytes,wOf]
 refine Prod.ext ?_ ?_
 · exact num_of_put a _ 0 fun q hq=>by
     rw [Nat.zero_add,nthP_l _ _ _ (by rw [putL_length];omega),nth_putN _ _ hq]
 · exact num_of_put b _ 8 fun q hq=>by
     rw [nthP_r _ _ _ (by rw [putL_length];omega),putL_length,show 8+q-8=q by omega,nth_putN _ _ hq]
theorem carry_sub(x y:BitVec 64):carryB (x-y) y 0#64=borrowB x y 0#64:=by
 unfold carryB borrowB
 have hx:=x.isLt
 have hy:=y.isLt
 apply BitVec.eq_of_toNat_eq
 rw [BitVec.toNat_ofNat,BitVec.toNat_sub]
 split<;>simp at* <;>omega
theorem borrow_add(x y:BitVec 64):borrowB (x+y) y 0#64=carryB x y 0#64:=by
 unfold carryB borrowB
 have hx:=x.isLt
 have hy:=y.isLt
 apply BitVec.eq_of_toNat_eq
 rw [BitVec.toNat_ofNat]
 split<;>rename_i h<;>rw [BitVec.toNat_add]at h<;>simp at* <;>omega
theorem wPlus_minus(a b:WW):wPlus (wMinus a b) b=a:=by
 obtain⟨a1,a2⟩:=a
 obtain⟨b1,b2⟩:=b
 simp only [wPlus,wMinus,carry_sub]
 refine Prod.ext (BitVec.sub_add_cancel _ _) ?_
 show a2-b2-borrowB a1 b1 0#64+b2+borrowB a1 b1 0#64=a2
 generalize borrowB a1 b1 0#64=c
 bv_omega
theorem wMinus_plus(a b:WW):wMinus (wPlus a b) b=a:=by
 obtain⟨a1,a2⟩:=a
 obtain⟨b1,b2⟩:=b
 simp only [wPlus,wMinus,borrow_add]
 refine Prod.ext (BitVec.add_sub_cancel _ _) ?_
 show a2+b2+carryB a1 b1 0#64-b2-carryB a1 b1 0#64=a2
 generalize carryB a1 b1 0#64=c
 bv_omega
def adMidD(P:AdP)(t m:List Byte)(n:Nat):WW:=wPlus (wOf (rgt m n)) (adSum P t (m.take n))
def adBulkD(P:AdP)(t m:List Byte)(n:Nat):List Byte:=astL P.key (m.take n) (adMidD P t m n).1 (adMidD P t m n).2
def adDe(P:AdP)(t m:List Byte)(n:Nat):List Byte:=adBulkD P t m n++wBytes (wMinus (wOf (aesD P.k0 P.ks P.kl (wBytes (adMidD P t m n)))) (adSum P t (adBulkD P t m n)))
theorem adBulkD_length(P:AdP)(t m:List Byte)(n:Nat)(h:n≤m.length):(adBulkD P t m n).length=n:=by rw [adBulkD,astL_length,List.length_take];omega
theorem adDe_length(P:AdP)(t m:List Byte)(n:Nat)(h:n≤m.length):(adDe P t m n).length=n+16:=by rw [adDe,List.length_append,adBulkD_length P t m n h,wBytes_length]
theorem astL_twice(key b:List Byte)(lo hi:BitVec 64):astL key (astL key b lo hi) lo hi=b:=strL_twice 64 (by omega) _ (xchB_length _ _) b
theorem adDe_adEn(P:AdP)(t m:List Byte)(n:Nat)(h:m.length=n+16):adDe P t (adEn P t m n) n=m:=by
 have l1:=adBulk_length P t m n (by omega)
 have e1:(adEn P t m n).take n=adBulk P t m n:=by rw [adEn,List.take_left' l1]
 have e2:rgt (adEn P t m n) n=wBytes (wMinus (adMid P t m n) (adSum P t (adBulk P t m n))):=by
   rw [rgt,adEn,List.drop_left' l1,List.take_of_length_le (by rw [wBytes_length];omega)]
 have e3:adMidD P t (adEn P t m n) n=adMid P t m n:=by rw [adMidD,e1,e2,wOf_bytes,wPlus_minus]
 have e4:adBulkD P t (adEn P t m n) n=m.take n:=by rw [adBulkD,e1,e3,adBulk,astL_twice]
 have lr:(rgt m n).length=16:=by rw [rgt,List.length_take,List.length_drop];omega
 rw [adDe,e3,e4,adMid,wBytes_of _ (aesE_length _ _ _ _),aesD_aesE _ _ _ _ (wBytes_length _),wOf_bytes,wMinus_plus,wBytes_of _ lr,rgt]
 rw [List.take_of_length_le (show(m.drop n).length≤16 by rw [List.length_drop];omega),List.take_append_drop]
theorem p3L_comm(a b c:List Byte):p3L a b c=p3L b a c:=by
 simp only [p3L,plusL]
 rw [both_assoc (zer 16) a b,both_comm a b,←both_assoc (zer 16) b a]
theorem hcDo_back(k0:List Byte)(ks:List (List Byte))(kl h l:List Byte)(E D:List Byte→List Byte)(hE:∀x,(E x).length=16)(hD:∀x,x.length=16→D (E x)=x)(t m:List Byte)(hm:16≤m.length):hcDo k0 ks kl h l D t (hcDo k0 ks kl h l E t m)=m:=by
 obtain⟨one,h1⟩:∃x,x=hcOne h t m:=⟨_,rfl⟩
 have lo:one.length=16:=by rw [h1];exact hcOne_length _ _ _
 obtain⟨B,hB⟩:∃x,x=hcBulk k0 ks kl h l E t m:=⟨_,rfl⟩
 obtain⟨M,hM⟩:∃x,x=hcDo k0 ks kl h l E t m:=⟨_,rfl⟩
 rw [←hM]
 have eM:M=bothL (E one) (vhL h t B)++B:=by rw [hM,hcDo,←h1,←hB]
 have lf:=bothL_length (E one) (vhL h t B)
 have et:M.take 16=bothL (E one) (vhL h t B):=by rw [eM,List.take_left' lf]
 have ed:M.drop 16=B:=by rw [eM,List.drop_left' lf]
 have e1:hcOne h t M=E one:=by rw [hcOne,et,ed,both_back _ _ (hE _)]
 have e2:D (E one)=one:=hD one lo
 have e3:hcBulk k0 ks kl h l D t M=m.drop 16:=by
   rw [hcBulk,e1,e2,ed,hB,hcBulk,←h1,p3L_comm (E one) one l]
   exact strL_twice 16 (by omega) _ (xcB_length _ _ _ _) _
 rw [hcDo,e1,e2,e3,h1,hcOne,both_back _ _ (by rw [List.length_take];omega),List.take_append_drop]
def wideD(a:Int)(key t m:List Byte):List Byte:=
 if a=1 then adDe (adPk key) t m (m.length-16)else if a=2 then hcDo (eK0 key) (eKs key) (eKl key) (hcH key) (hcL key) (aesD (eK0 key) (eKs key) (eKl key)) t m else tinyL (eZ (keyOf key)) (hashG (eZ (keyOf key)) [t]) true m
theorem wideD_length(a:Int)(key t m:List Byte)(h:16≤m.length):(wideD a key t m).length=m.length:=by
 unfold wideD
 split
 · rw [adDe_length _ _ _ _ (by omega)];omega
 · split
   · rw [hcDo,List.length_append,bothL_length,hcBulk_length];omega
   · exact tinyL_length _ _ _ _
theorem wideD_wideE(a:Int)(key t m:List Byte)(h:16≤m.length):wideD a key t (wideE a key t m)=m:=by
 have l:=wideE_length a key t m h
 unfold wideD
 rw [l]
 unfold wideE
 split
 · exact adDe_adEn _ _ _ _ (by omega)
 · split
   · exact hcDo_back _ _ _ _ _ _ _ (fun x=>aesE_length _ _ _ _) (fun x hx=>aesD_aesE _ _ _ _ hx) _ _ h
   · exact tinyL_back _ _ false m
def wideX(bk:Bool)(a:Int)(key t m:List Byte):List Byte:=if bk then wideD a key t m else wideE a key t m
theorem wideX_length(bk:Bool)(a:Int)(key t m:List Byte)(h:16≤m.length):(wideX bk a key t m).length=m.length:=by
 unfold wideX;split
 · exact wideD_length a key t m h
 · exact wideE_length a key t m h
theorem unboxed_any(g gb:Nat)(b:List Byte)(hb:b.length=16)(w0:World)(h1:Row w0 g 78 (tcells gb mixT unmixT))(h2:Row w0 gb 91 (tabs.map v8)):Gives Tryz.prog 140 #[.pointer (some ⟨g,0,none⟩),A8 b] w0 (A8 (unbL b)):=by
 unfold Gives
 have hm:=Own.start w0
 have hb1:=Nat.le_of_eq hb
 have hb2:=Nat.le_of_eq hb.symm
 have H1:=Lib.hid h1
 have H2:=Lib.hid h2
 clear hb h1 h2
 go_enter Tryz.func140,Tryz.ntmps140
 go_wp2_with (first|((first|((with_reducible show qAl);first|((with_reducible apply wq_new hm);exact rfl;infer_instance))|((with_reducible show qBx);first|((with_reducible apply wq_boxN hm);exact rfl;exact rfl)));clear hm;(first|(have hx_:=g1;clear hx_;(first|(have hx_:=g2;clear hx_;(first|(have hx_:=g3;clear hx_;intro gx_)|intro g3))|intro g2))|intro g1);intro w hm))
 go_loopw [8] (fun i wr=>∃col:Nat,col≤4∧i= .int .i64 col∧Own w0 wr [⟨g3,68,(unbF b (4*col)).map v8⟩,⟨g2,68,(zer 16).map v8⟩,⟨g1,68,b.map v8⟩]) (fun i _=>4-(intOf i).toNat)
 case atStart=>exact⟨0,by omega,rfl,hm⟩
 case round =>
   obtain⟨col,hcol,rfl,hm⟩:=hrel
   by_cases hlt:col<4
   · have hd : decide ((col:Int)<4)=true:=by simp;omega
     go_wp2_with fail
     go_loopw [11] (fun j wr=>∃row:Nat,row≤4∧j= .int .i64 row∧Own w0 wr [⟨g3,68,(unbF b (4*col+row)).map v8⟩,⟨g2,68,(zer 16).map v8⟩,⟨g1,68,b.map v8⟩]) (fun j _=>4-(intOf j).toNat)
     case atStart=>exact⟨0,by omega,rfl,hm⟩
     case round =>
       obtain⟨row,hrow,rfl,hm⟩:=hrel
       by_cases hlr:row<4
       · have hs:=shp_lt row col hlr
         have hs2:(shp row col:Int)<16:=by omega
         have hi2:(row:Int)+4*(col:Int)<16:=by omega
         have hi0:(0:Int)≤(row:Int)+4*(col:Int):=by omega
         have hin:((row:Int)+4*(col:Int)).toNat=row+4*col:=by omega
         have ul:=unbF_length b (4*col+row)
         have e1:unbF b (4*col+row+1)=setN (unbF b (4*col+row)) (shp row col) (bxBack (nth b (row+4*col))):=by rw [unbF,show(4*col+row)%4=row from by omega,show(4*col+row)/4=col from by omega,Nat.add_comm (4*col) row]
         have E1:=Lib.hid e1
         have HR:=Lib.hid (row_ext H1.out hm.x)
         have HB:=Lib.hid (row_ext H2.out hm.x)
         clear e1
         go_wp2_with fail
         refine region_at 15 (fun w'=>Ext _ w') 32 (by kernel_rfl) (by kernel_rfl) rfl (fun _ _ h k=>h.trans k) (drew_ext _) ?_
         simp only [tSC,List.take_zero,dSC,List.drop_zero,List.map_cons,List.map_nil]
         repeat (first
             | (apply walk_is rfl rfl rfl
                · (intro wx hwx;(with_reducible apply gq_row1 ((fun wx hwx=>row_ext HR.out hwx) wx hwx));infer_instance;exact rfl;(exact tcells_ptr _ _ _))
                · (simp only [Act.put,sIB,sCS,sCZ];rfl))
             | (apply walk_is rfl rfl rfl
                · (intro wx hwx;first|((with_reducible show gives _ _ _ (Sem.run _ (execOp _ (Oper.mk _ (Op.load _ _) _ _ _ _)) _));first|((with_reducible apply gq_ldv (hm.ext hwx));infer_instance;exact rfl;(focus (repeat first|exact .hd|assumption|apply Has.tl);done);(focus (first|omega|(simp;omega)|(refine ltB ?_;first|omega|(simp;done)|(simp;omega))))))|(go_simp;(try go_bits);first|exact gives_same|exact gives_skip|with_reducible exact gives_call (shifted_G row col hlr hlt wx)|with_reducible exact gives_call (back_G gb _ wx (row_ext HB.out hwx))))
                · (simp only [Act.put,sIB,sCS,sCZ];rfl))
             | (apply walk_not rfl rfl rfl
                · (simp only [Act.put,sIB,sCS,sCZ];rfl)))
         intro wz hwz
         simp only [zCC,zNR]
         repeat (first|rw [fin_is]|(rw [fin_cons];intro _ _))
         rw [fin_nil]
         try (replace hm:=hm.ext hwz)
         simp only [Act.put,sIB,sCS,sCZ]
         go_wp2_with (first|((((with_reducible show qSt);first|((with_reducible apply wq_stv hm);exact rfl;infer_instance;exact rfl;(focus (repeat first|exact .hd|assumption|apply Swap.tl);done);infer_instance;exact rfl;(focus (first|omega|(simp;omega)|(refine ltB ?_;first|omega|(simp;done)|(simp;omega)))))));clear hm;intro w hm))
         go_roundw
         case rel=>exact⟨row+1,by omega,by go_num,by rw [show 4*col+(row+1)=4*col+row+1 from rfl,E1.out];exact hm⟩
         case measure=>simp [intOf]<;>omega
       · obtain rfl:row=4:=by omega
         go_wp2_with fail
         go_roundw
         case rel=>exact⟨col+1,by omega,by go_num,by rw [show 4*(col+1)=4*col+4 from by omega];exact hm⟩
         case measure=>simp [intOf]<;>omega
   · obtain rfl:col=4:=by omega
     have ul:=unbF_length b (4*4)
     go_wp2_with (first|((with_reducible show qLd);first|((with_reducible apply wq_ldW hm);exact rfl;infer_instance;exact rfl;(focus (repeat first|exact .hd|assumption|apply Has.tl);done);(focus (first|rfl|omega|(simp;done)|(simp;omega)))))|((((with_reducible show qSt);first|((with_reducible apply wq_stW hm);exact rfl;infer_instance;exact rfl;exact rfl;(focus (repeat first|exact .hd|assumption|apply Swap.tl);done);(focus (first|rfl|omega|(simp;done)|(simp;omega)));(focus (first|rfl|omega|(simp;done)|(simp;omega)));(focus (first|exact one_map _|(simp [one8,one32,one64];done))))));clear hm;intro w hm))
     refine rtO hm rfl rfl (hR:=⟨rfl,hm.x⟩)
theorem unlast_any(g gb:Nat)(b key:List Byte)(hb:b.length=16)(hk:key.length=16)(w0:World)(h1:Row w0 g 78 (tcells gb mixT unmixT))(h2:Row w0 gb 91 (tabs.map v8)):Gives Tryz.prog 129 #[.pointer (some ⟨g,0,none⟩),A8 b,A8 key] w0 (A8 (unbL (bothL b key))):=by
 unfold Gives
 have hm:=Own.start w0
 have hb1:=Nat.le_of_eq hb
 have hb2:=Nat.le_of_eq hb.symm
 have hk1:=Nat.le_of_eq hk
 have hk2:=Nat.le_of_eq hk.symm
 have HB:=Lib.hid hb
 have HK:=Lib.hid hk
 have H1:=Lib.hid h1
 have H2:=Lib.hid h2
 have ul:=unbL_length (bothL b key)
 clear hb hk h1 h2
 go_enter Tryz.func129,Tryz.ntmps129
 go_wp2_with (first|(go_at_call 79;(with_reducible refine(both_any b key HB.out HK.out _).mono ?_);rintro e_ w ⟨rfl,hx_⟩;replace hm:=hm.ext hx_;clear hx_)|(go_at_call 140;(with_reducible refine(unboxed_any g gb (bothL b key) (bothL_length _ _) _ (row_ext H1.out hm.x) (row_ext H2.out hm.x)).mono ?_);rintro e_ w ⟨rfl,hx_⟩;replace hm:=hm.ext hx_;clear hx_)|((with_reducible show qLd);first|((with_reducible apply wq_ldW hm);exact rfl;infer_instance;exact rfl;(focus (repeat first|exact .hd|assumption|apply Has.tl);done);(focus (first|rfl|omega|(simp;done)|(simp;omega)))))|((((with_reducible show qSt);first|((with_reducible apply wq_stW hm);exact rfl;infer_instance;exact rfl;exact rfl;(focus (repeat first|exact .hd|assumption|apply Swap.tl);done);(focus (first|rfl|omega|(simp;done)|(simp;omega)));(focus (first|rfl|omega|(simp;done)|(simp;omega)));(focus (first|exact one_map _|(simp [one8,one32,one64];done))))));clear hm;intro w hm)|((first|((with_reducible show qAl);first|((with_reducible apply wq_new hm);exact rfl;infer_instance))|((with_reducible show qBx);first|((with_reducible apply wq_boxN hm);exact rfl;exact rfl)));clear hm;intro gx_;intro w hm))
 refine rtO hm rfl rfl (hR:=⟨rfl,hm.x⟩)
attribute [local simp] putL_length
theorem uncB_col(U:List Byte)(col:Nat)(r:Nat)(h:r<4):byteW (uncW U col 4) r=uncB U (4*col+r):=by
 rw [uncB,show(4*col+r)/4=col from by omega,show(4*col+r)%4=r from by omega]
theorem unround_any(g gb:Nat)(b key:List Byte)(hb:b.length=16)(hk:key.length=16)(w0:World)(h1:Row w0 g 78 (tcells gb mixT unmixT))(h2:Row w0 gb 91 (tabs.map v8)):Gives Tryz.prog 130 #[.pointer (some ⟨g,0,none⟩),A8 b,A8 key] w0 (A8 (unr b key)):=by
 unfold Gives
 have hm:=Own.start w0
 have hb1:=Nat.le_of_eq hb
 have hb2:=Nat.le_of_eq hb.symm
 have hk1:=Nat.le_of_eq hk
 have hk2:=Nat.le_of_eq hk.symm
 have H1:=Lib.hid h1
 have H2:=Lib.hid h2
 have hU:(bothL b key).length=16:=bothL_length _ _
 have CB:=Lib.hid fun wx=>both_any b key hb hk wx
 unfold unr
 generalize bothL b key=U at*
 have HU:=Lib.hid hU
 have hu1:=Nat.le_of_eq hU
 have hu2:=Nat.le_of_eq hU.symm
 have ul:(unbL (uncL U)).length=16:=unbL_length _
 have CU:=Lib.hid fun g wx h h2=>unboxed_any g gb (uncL U) (uncL_length _) wx h h2
 have eU:uncL U=tab 16 (uncB U):=rfl
 have lX:(uncL U).length=16:=uncL_length U
 generalize uncL U=X at*
 have EU:=Lib.hid eU
 clear hb hk h1 h2 hU eU
 go_enter Tryz.func130,Tryz.ntmps130
 go_wp2_with (first|(go_at_call 79;(with_reducible refine(CB.out _).mono ?_);rintro e_ w ⟨rfl,hx_⟩;replace hm:=hm.ext hx_;clear hx_)|((with_reducible show qLd);first|((with_reducible apply wq_ldW hm);exact rfl;infer_instance;exact rfl;(focus (repeat first|exact .hd|assumption|apply Has.tl);done);(focus (first|rfl|omega|(simp;done)|(simp;omega)))))|((((with_reducible show qSt);first|((with_reducible apply wq_stW hm);exact rfl;infer_instance;exact rfl;exact rfl;(focus (repeat first|exact .hd|assumption|apply Swap.tl);done);(focus (first|rfl|omega|(simp;done)|(simp;omega)));(focus (first|rfl|omega|(simp;done)|(simp;omega)));(focus (first|exact one_map _|(simp [one8,one32,one64];done))))));clear hm;intro w hm)|((first|((with_reducible show qAl);first|((with_reducible apply wq_new hm);exact rfl;infer_instance))|((with_reducible show qBx);first|((with_reducible apply wq_boxN hm);exact rfl;exact rfl)));clear hm;(first|(have hx_:=g1;clear hx_;(first|(have hx_:=g2;clear hx_;(first|(have hx_:=g3;clear hx_;(first|(have hx_:=g4;clear hx_;intro gx_)|intro g4))|intro g3))|intro g2))|intro g1);intro w hm))
 go_loopw [18] (fun i wr=>∃col:Nat,col≤4∧i= .int .i64 col∧Own w0 wr [⟨g4,68,(part 16 (4*col) (uncB U) fun _=>0).map v8⟩,⟨g3,68,(zer 16).map v8⟩,⟨g2,68,key.map v8⟩,⟨g1,68,U.map v8⟩]) (fun i _=>4-(intOf i).toNat)
 case atStart=>exact⟨0,by omega,rfl,by rw [←zer_start];exact hm⟩
 case round =>
   obtain⟨col,hcol,rfl,hm⟩:=hrel
   by_cases hlt:col<4
   · have hd : decide ((col:Int)<4)=true:=by simp;omega
     go_wp2_with fail
     go_loopw [9,21] (fun n j wr=>∃row:Nat,row≤4∧j= .int .i64 row∧n=v32 (uncW U col row)∧Own w0 wr [⟨g4,68,(part 16 (4*col) (uncB U) fun _=>0).map v8⟩,⟨g3,68,(zer 16).map v8⟩,⟨g2,68,key.map v8⟩,⟨g1,68,U.map v8⟩]) (fun _ j _=>4-(intOf j).toNat)
     case atStart=>exact⟨0,by omega,rfl,rfl,hm⟩
     case round =>
       obtain⟨row,hrow,rfl,rfl,hm⟩:=hrel
       by_cases hlr:row<4
       · have hs2:(row:Int)+4*(col:Int)<16:=by omega
         have hs3:0≤(row:Int)+4*(col:Int):=by omega
         have hs4:((row:Int)+4*(col:Int)).toNat=row+4*col:=by omega
         have hx9:((nth U (row+4*col)).toNat:Int)<256:=by have:=(nth U (row+4*col)).isLt;omega
         have e1:uncW U col (row+1)=uncW U col row^^^brg unmixesL row (nth U (row+4*col)) 4:=rfl
         have E1:=Lib.hid e1
         have HR:=Lib.hid (row_ext H1.out hm.x)
         clear e1
         go_wp2_with fail
         refine region_at 15 (fun w'=>Ext _ w') 51 (by kernel_rfl) (by kernel_rfl) rfl (fun _ _ h k=>h.trans k) (drew_ext _) ?_
         simp only [tSC,List.take_zero,dSC,List.drop_zero,List.map_cons,List.map_nil]
         repeat (first
             | (apply walk_is rfl rfl rfl
                · (intro wx hwx;(with_reducible apply gq_row1 ((fun wx hwx=>row_ext HR.out hwx) wx hwx));infer_instance;exact rfl;(exact tcunmix _ _ _ hlr))
                · (simp only [Act.put,sIB,sCS,sCZ];rfl))
             | (apply walk_is rfl rfl rfl
                · (intro wx hwx;first|((with_reducible show gives _ _ _ (Sem.run _ (execOp _ (Oper.mk _ (Op.load _ _) _ _ _ _)) _));first|((with_reducible apply gq_ldv (hm.ext hwx));infer_instance;exact rfl;(focus (repeat first|exact .hd|assumption|apply Has.tl);done);(focus (first|omega|(simp;omega)|(refine ltB ?_;first|omega|(simp;done)|(simp;omega))))))|(go_simp;(try go_bits);first|exact gives_same|exact gives_skip))
                · (simp only [Act.put,sIB,sCS,sCZ];rfl))
             | (apply walk_not rfl rfl rfl
                · (simp only [Act.put,sIB,sCS,sCZ];rfl)))
         intro wz hwz
         simp only [zCC,zNR]
         repeat (first|rw [fin_is]|(rw [fin_cons];intro _ _))
         rw [fin_nil]
         try (replace hm:=hm.ext hwz)
         simp only [Act.put,sIB,sCS,sCZ]
         go_wp2_with fail
         go_roundw
         case rel=>exact⟨row+1,by omega,by go_num,by rw [E1.out],hm⟩
         case measure=>simp [intOf]<;>omega
       · obtain rfl:row=4:=by omega
         go_wp2_with (first|(go_at_call 59;(with_reducible refine(putword_any _ _).mono ?_);rintro e_ w ⟨rfl,hx_⟩;replace hm:=hm.ext hx_;clear hx_)|((((with_reducible show qSt);first|((with_reducible apply wq_stW hm);exact rfl;infer_instance;exact rfl;exact rfl;(focus (repeat first|exact .hd|assumption|apply Swap.tl);done);(focus (first|rfl|omega|(simp;done)|(simp;omega)));(focus (first|rfl|omega|(simp;done)|(simp;omega)));(focus (first|exact one_map _|(simp [one8,one32,one64];done))))));clear hm;intro w hm)|((first|((with_reducible show qAl);first|((with_reducible apply wq_new hm);exact rfl;infer_instance)));clear hm;(first|(have hx_:=g1;clear hx_;(first|(have hx_:=g2;clear hx_;(first|(have hx_:=g3;clear hx_;(first|(have hx_:=g4;clear hx_;intro gx_)|intro g4))|intro g3))|intro g2))|intro g1);intro w hm))
         have hl0:(0:Int)≤4*(col:Int):=by omega
         have hl1:4*(col:Int)≤16:=by omega
         have hl2:(4*(col:Int)).toNat=4*col:=by omega
         have hl3:16≠4*col:=by omega
         have hl4:¬16=4*col:=hl3
         refine region_at 4 (fun w'=>Ext _ w') 51 (by kernel_rfl) (by kernel_rfl) rfl (fun _ _ h k=>h.trans k) (drew_ext _) ?_
         simp only [tSC,List.take_zero,dSC,List.drop_zero,List.map_cons,List.map_nil]
         repeat (first
             | (apply walk_is rfl rfl rfl
                · (intro wx hwx;go_simp;(try go_bits);first|exact gives_same|exact gives_skip)
                · (simp only [Act.put,sIB,sCS,sCZ];rfl))
             | (apply walk_not rfl rfl rfl
                · (simp only [Act.put,sIB,sCS,sCZ];rfl)))
         intro wz hwz
         simp only [zCC,zNR]
         repeat (first|rw [fin_is]|(rw [fin_cons];intro _ _))
         rw [fin_nil]
         try (replace hm:=hm.ext hwz)
         simp only [Act.put,sIB,sCS,sCZ]
         refine wpl_cp8 hm rfl rfl rfl rfl rfl (by kernel_rfl) (by repeat (first|exact Swap.hd|assumption|apply Swap.tl)) (hm.rdB (by repeat (first|exact Has.hd|assumption|apply Has.tl))) (putL_length _ _).symm (over_col _ (uncB U) col _ hlt (by omega) (uncB_col U col)) (by simp;omega) ?_
         clear hm
         intro w hm
         go_wp2_with fail
         go_roundw
         case rel=>exact⟨col+1,by omega,by go_num,by rw [show 4*(col+1)=4*col+4 from by omega];exact hm.drop⟩
         case measure=>simp [intOf]<;>omega
   · obtain rfl:col=4:=by omega
     rw [show 4*4=16 from rfl,part_all,←EU.out]at hm
     go_wp2_with (first|(go_at_call 140;(with_reducible refine(CU.out g _ (row_ext H1.out hm.x) (row_ext H2.out hm.x)).mono ?_);rintro e_ w ⟨rfl,hx_⟩;replace hm:=hm.ext hx_;clear hx_)|((with_reducible show qLd);first|((with_reducible apply wq_ldW hm);exact rfl;infer_instance;exact rfl;(focus (repeat first|exact .hd|assumption|apply Has.tl);done);(focus (first|rfl|omega|(simp;done)|(simp;omega)))))|((((with_reducible show qSt);first|((with_reducible apply wq_stW hm);exact rfl;infer_instance;exact rfl;exact rfl;(focus (repeat first|exact .hd|assumption|apply Swap.tl);done);(focus (first|rfl|omega|(simp;done)|(simp;omega)));(focus (first|rfl|omega|(simp;done)|(simp;omega)));(focus (first|exact one_map _|(simp [one8,one32,one64];done))))));clear hm;intro w hm))
     refine rtO hm rfl rfl (hR:=⟨rfl,hm.x⟩)
end Go.Proofs.YtllnjbiebdkmbaaGreatDoor
namespace Go.Proofs.YtllnjbiebdkmbaaGreatDoor
open Go Go.RowKit
set_option maxRecDepth 100000
theorem decrypt_any(g:Nat)(k0 kl:List Byte)(ks:List (List Byte))(b:List Byte)(hb:b.length=16)(w0:World)(h:AesR w0 g k0 ks kl):Gives Tryz.prog 122 #[.pointer (some ⟨g,0,none⟩),A8 b] w0 (A8 (aesD k0 ks kl b)):=by
 unfold Gives
 have hm:=Own.start w0
 obtain⟨gt,gb,a,c,h1,h2,h3,h4,h5,h6,h7⟩:=h
 have R1:=Lib.hid fun wx (hx:Ext w0 wx)=>row_ext h1 hx
 obtain⟨l0,ll,d0,dm,dl⟩:=h4.three h6
 have D0:=Lib.hid d0
 have DL:=Lib.hid dl
 have KA:=Lib.hid fun (j:Nat)(hj:0<j)(hjm:j≤ks.length)=>(show RdB w0 (some (a.add (j*16))) (ks.getD (j-1) [])∧(ks.getD (j-1) []).length=16 from by
   have:=h4.at (by omega) j (by simp;omega)
   rwa [show(k0::(ks++[kl])).getD j []=ks.getD (j-1) []from by
     obtain⟨i,rfl⟩:∃i,j=i+1:=⟨j-1,by omega⟩
     simp only [Nat.add_sub_cancel,List.getD_eq_getElem?_getD,List.getElem?_cons_succ]
     rw [List.getElem?_append_left (by omega)]]at this)
 have lu:(unl b kl).length=16:=unl_length _ _
 have B0:=Lib.hid fun wx (hx:Ext w0 wx)=>(show Gives Tryz.prog 129 #[.pointer (some ⟨gt,0,none⟩),A8 b,A8 kl] wx (A8 (dcF ks (unl b kl) 0))from unlast_any gt gb b kl hb ll wx (row_ext h2 hx) (row_ext h3 hx))
 have BR:=Lib.hid fun (cc:Nat)(hc:cc<ks.length) wx (hx:Ext w0 wx)=>(show Gives Tryz.prog 130 #[.pointer (some ⟨gt,0,none⟩),A8 (dcF ks (unl b kl) cc),A8 (ks.getD (ks.length-cc-1) [])] wx (A8 (dcF ks (unl b kl) (cc+1)))from by
   rw [show ks.length-cc-1=ks.length-1-cc from by omega]
   exact unround_any gt gb _ _ (dcF_length ks _ lu cc) (by have:=(KA.out (ks.length-cc) (by omega) (by omega)).2;rwa [show ks.length-cc-1=ks.length-1-cc from by omega]at this) wx (row_ext h2 hx) (row_ext h3 hx))
 have B2:=Lib.hid fun wx=>(show Gives Tryz.prog 66 #[A8 (dcF ks (unl b kl) ks.length),A8 k0] wx (A8 (aesD k0 ks kl b))from aboth_any _ k0 (dcF_length ks _ lu _) l0 wx)
 have LF:=Lib.hid (dcF_length ks (unl b kl) lu)
 have lE:=aesD_length k0 ks kl b
 obtain⟨m,hm_⟩:∃m,ks.length=m:=⟨_,rfl⟩
 rw [hm_]at R1 h5 h6 h7 DL B2 BR KA
 generalize aesD k0 ks kl b=E at*
 generalize dcF ks (unl b kl)=F at*
 have P0:Hid ((aesC gt (some a) (m+2) c)[0]? =some (.pointer (some ⟨gt,0,none⟩))):=Lib.hid rfl
 have P1:Hid ((aesC gt (some a) (m+2) c)[1]? =some (.slice (some a) (m+2) c)):=Lib.hid rfl
 have q1:((m:Int)+2)-1=(m:Int)+1:=by omega
 have q4:0≤(m:Int)+1∧(m:Int)+1<(m:Int)+2:=by omega
 have q8:(m:Int)+1<(m:Int)+2:=by omega
 have q9:0≤(m:Int)+1:=by omega
 have q5:((m:Int)+1).toNat=m+1:=by omega
 have q6:(0:Int)<(m:Int)+2:=by omega
 have hb1:=Nat.le_of_eq hb
 have hb2:=Nat.le_of_eq hb.symm
 have he1:=Nat.le_of_eq lE
 have he2:=Nat.le_of_eq lE.symm
 have hf1:=fun k=>Nat.le_of_eq (LF.out k)
 have hf2:=fun k=>Nat.le_of_eq (LF.out k).symm
 have HF1:=Lib.hid hf1
 have HF2:=Lib.hid hf2
 have f0:=hf1 0
 have f0':=hf2 0
 clear h1 h2 h3 h4 d0 dm dl hm_ hb lE hf1 hf2 lu
 go_enter Tryz.func122,Tryz.ntmps122
 go_wp2_with (first|((with_reducible apply wq_row1 (R1.out _ hm.x));exact rfl;infer_instance;exact rfl;exact P1.out)|((first|((with_reducible show qAl);first|((with_reducible apply wq_new hm);exact rfl;infer_instance))|((with_reducible show qBx);first|((with_reducible apply wq_boxN hm);exact rfl;exact rfl)));clear hm;(first|(have hx_:=g1;clear hx_;(first|(have hx_:=g2;clear hx_;intro gx_)|intro g2))|intro g1);intro w hm))
 have r1:=fun wx (hwx:Ext w wx)=>R1.out wx (hm.x.trans hwx)
 have d0:=fun wx (hwx:Ext w wx)=>DL.out.ext (hm.x.trans hwx)
 have hx0:=hm.x
 refine region_at 13 (fun w'=>Ext _ w') 53 (by kernel_rfl) (by kernel_rfl) rfl (fun _ _ h k=>h.trans k) (drew_ext _) ?_
 simp only [tSC,List.take_zero,dSC,List.drop_zero,List.map_cons,List.map_nil]
 repeat (first
     | (apply walk_is rfl rfl rfl
        · (intro wx hwx;(with_reducible apply gq_row1 ((r1) wx hwx));infer_instance;exact rfl;exact P0.out)
        · (simp only [Act.put,sIB,sCS,sCZ];rfl))
     | (apply walk_is rfl rfl rfl
        · (intro wx hwx;(with_reducible apply gq_row1 ((r1) wx hwx));infer_instance;exact rfl;exact P1.out)
        · (simp only [Act.put,sIB,sCS,sCZ];rfl))
     | (apply walk_is rfl rfl rfl
        · (intro wx hwx;(with_reducible apply gq_rdW ((d0) wx hwx));infer_instance;exact rfl;(focus (first|rfl|omega|(simp;done)|(simp;omega))))
        · (simp only [Act.put,sIB,sCS,sCZ];rfl))
     | (apply walk_is rfl rfl rfl
        · (intro wx hwx;first|((with_reducible show gives _ _ _ (Sem.run _ (execOp _ (Oper.mk _ (Op.load _ _) _ _ _ _)) _));first|((with_reducible apply gq_ldW (hm.ext hwx));infer_instance;exact rfl;(focus (repeat first|exact .hd|assumption|apply Has.tl);done);(focus (first|rfl|omega|(simp;done)|(simp;omega)))))|(go_simp;(try go_bits);first|exact gives_same|exact gives_skip|with_reducible exact gives_call (B0.out wx (hx0.trans hwx))))
        · (simp only [Act.put,sIB,sCS,sCZ];rfl))
     | (apply walk_not rfl rfl rfl
        · (simp only [Act.put,sIB,sCS,sCZ];rfl)))
 intro wz hwz
 simp only [zCC,zNR]
 repeat (first|rw [fin_is]|(rw [fin_cons];intro _ _))
 rw [fin_nil]
 try (replace hm:=hm.ext hwz)
 simp only [Act.put,sIB,sCS,sCZ]
 clear r1 d0 hx0
 go_wp2_with (first|((((with_reducible show qSt);first|((with_reducible apply wq_stW hm);exact rfl;infer_instance;exact rfl;exact rfl;(focus (repeat first|exact .hd|assumption|apply Swap.tl);done);(focus (first|rfl|omega|(simp;done)|(simp;omega)));(focus (first|rfl|omega|(simp;done)|(simp;omega)));(focus (first|exact one_map _|(simp [one8,one32,one64];done))))));clear hm;intro w hm))
 have KB:=Lib.hid fun (j:Nat)(hj:j<m) wx (hx:Ext w0 wx)=>((KA.out (j+1) (by omega) (by omega)).1.ext hx:RdB wx (some (a.add ((j+1)*16))) (ks.getD (j+1-1) []))
 have KL:=Lib.hid fun (j:Nat)(hj:j<m)=>(KA.out (j+1) (by omega) (by omega)).2
 have BJ:=Lib.hid fun (j:Nat)(hj:j<m) wx (hx:Ext w0 wx)=>(show Gives Tryz.prog 130 #[.pointer (some ⟨gt,0,none⟩),A8 (F (m-(j+1))),A8 (ks.getD (j+1-1) [])] wx (A8 (F (m-j)))from by
   have h:=BR.out (m-(j+1)) (by omega) wx hx
   rwa [show m-(m-(j+1))-1=j+1-1 from by omega,show m-(j+1)+1=m-j from by omega]at h)
 clear q1 q4 q8 q9 q5 KA BR
 simp only [Act.put,sIB,sCS,sCZ]
 go_loopw [5] (fun i wr=>∃j:Nat,j≤m∧i= .int .i64 ((j:Int)+1)∧Own w0 wr [⟨g2,68,(zer 16).map v8⟩,⟨g1,68,(F (m-j)).map v8⟩]) (fun i _=>(intOf i).toNat)
 case atStart=>exact⟨m,Nat.le_refl _,rfl,by rw [Nat.sub_self];exact hm⟩
 case round =>
   obtain⟨j,hj,rfl,hm⟩:=hrel
   cases j with
   | zero=>
     have hd1:decide (((0:Nat):Int)+1>1)=false:=by decide
     rw [Nat.sub_zero]at hm
     have f1:=HF1.out m
     have f2:=HF2.out m
     go_wp2_with fail
     have r1:=fun wx (hwx:Ext wr wx)=>R1.out wx (hm.x.trans hwx)
     have d0:=fun wx (hwx:Ext wr wx)=>D0.out.ext (hm.x.trans hwx)
     have hx0:=hm.x
     obtain⟨w,rfl⟩:∃w_,w_=wr:=⟨_,rfl⟩
     refine region_at 8 (fun w'=>Ext _ w') 53 (by kernel_rfl) (by kernel_rfl) rfl (fun _ _ h k=>h.trans k) (drew_ext _) ?_
     simp only [tSC,List.take_zero,dSC,List.drop_zero,List.map_cons,List.map_nil]
     repeat (first
         | (apply walk_is rfl rfl rfl
            · (intro wx hwx;(with_reducible apply gq_row1 ((r1) wx hwx));infer_instance;exact rfl;exact P0.out)
            · (simp only [Act.put,sIB,sCS,sCZ];rfl))
         | (apply walk_is rfl rfl rfl
            · (intro wx hwx;(with_reducible apply gq_row1 ((r1) wx hwx));infer_instance;exact rfl;exact P1.out)
            · (simp only [Act.put,sIB,sCS,sCZ];rfl))
         | (apply walk_is rfl rfl rfl
            · (intro wx hwx;(with_reducible apply gq_rdW ((d0) wx hwx));infer_instance;exact rfl;(focus (first|rfl|omega|(simp;done)|(simp;omega))))
            · (simp only [Act.put,sIB,sCS,sCZ];rfl))
         | (apply walk_is rfl rfl rfl
            · (intro wx hwx;first|((with_reducible show gives _ _ _ (Sem.run _ (execOp _ (Oper.mk _ (Op.load _ _) _ _ _ _)) _));first|((with_reducible apply gq_ldW (hm.ext hwx));infer_instance;exact rfl;(focus (repeat first|exact .hd|assumption|apply Has.tl);done);(focus (first|rfl|omega|(simp;done)|(simp;omega)))))|(go_simp;(try go_bits);first|exact gives_same|exact gives_skip|with_reducible exact gives_call (B2.out wx)))
            · (simp only [Act.put,sIB,sCS,sCZ];rfl))
         | (apply walk_not rfl rfl rfl
            · (simp only [Act.put,sIB,sCS,sCZ];rfl)))
     intro wz hwz
     simp only [zCC,zNR]
     repeat (first|rw [fin_is]|(rw [fin_cons];intro _ _))
     rw [fin_nil]
     try (replace hm:=hm.ext hwz)
     simp only [Act.put,sIB,sCS,sCZ]
     clear r1 d0 hx0
     go_wp2_with (first|((((with_reducible show qSt);first|((with_reducible apply wq_stW hm);exact rfl;infer_instance;exact rfl;exact rfl;(focus (repeat first|exact .hd|assumption|apply Swap.tl);done);(focus (first|rfl|omega|(simp;done)|(simp;omega)));(focus (first|rfl|omega|(simp;done)|(simp;omega)));(focus (first|exact one_map _|(simp [one8,one32,one64];done))))));clear hm;intro w hm))
     refine rtO hm rfl rfl (hR:=⟨rfl,hm.x⟩)
   | succ j =>
     have hd1:decide ((((j+1:Nat):Int))+1>1)=true:=decide_eq_true (by omega)
     have hd2:decide ((j:Int)+1+1>1)=true:=decide_eq_true (by omega)
     have q1:(j:Int)+1+1-1=(j:Int)+1:=by omega
     have q4:0≤(j:Int)+1∧(j:Int)+1<(m:Int)+2:=by omega
     have q5:((j:Int)+1).toNat=j+1:=by omega
     have q8:(j:Int)+1<(m:Int)+2:=by omega
     have q9:0≤(j:Int)+1:=by omega
     have b0:=fun wx (hx:Ext w0 wx)=>BJ.out j (by omega) wx hx
     have kb:=fun wx (hx:Ext w0 wx)=>KB.out j (by omega) wx hx
     have kl:=KL.out j (by omega)
     have k1:=Nat.le_of_eq kl
     have k2:=Nat.le_of_eq kl.symm
     have f1:=HF1.out (m-(j+1))
     have f2:=HF2.out (m-(j+1))
     have f3:=HF1.out (m-j)
     have f4:=HF2.out (m-j)
     obtain⟨X0,hX0⟩:∃x,x=F (m-(j+1)):=⟨_,rfl⟩
     obtain⟨X1,hX1⟩:∃x,x=F (m-j):=⟨_,rfl⟩
     obtain⟨kk,hkk⟩:∃x,x=ks.getD (j+1-1) []:=⟨_,rfl⟩
     rw [←hX0]at hm b0 f1 f2
     rw [←hX1]at b0 f3 f4
     rw [←hkk]at b0 kb kl k1 k2
     have HB:=Lib.hid b0
     have HKB:=Lib.hid kb
     have HX1:=Lib.hid hX1
     clear b0 kb hX0 hX1 hkk
     obtain⟨w,rfl⟩:∃w_,w_=wr:=⟨_,rfl⟩
     go_wp2_with fail
     have r1:=fun wx (hwx:Ext w wx)=>R1.out wx (hm.x.trans hwx)
     have d0:=fun wx (hwx:Ext w wx)=>HKB.out wx (hm.x.trans hwx)
     have hx0:=hm.x
     refine region_at 13 (fun w'=>Ext _ w') 53 (by kernel_rfl) (by kernel_rfl) rfl (fun _ _ h k=>h.trans k) (drew_ext _) ?_
     simp only [tSC,List.take_zero,dSC,List.drop_zero,List.map_cons,List.map_nil]
     repeat (first
         | (apply walk_is rfl rfl rfl
            · (intro wx hwx;(with_reducible apply gq_row1 ((r1) wx hwx));infer_instance;exact rfl;exact P0.out)
            · (simp only [Act.put,sIB,sCS,sCZ];rfl))
         | (apply walk_is rfl rfl rfl
            · (intro wx hwx;(with_reducible apply gq_row1 ((r1) wx hwx));infer_instance;exact rfl;exact P1.out)
            · (simp only [Act.put,sIB,sCS,sCZ];rfl))
         | (apply walk_is rfl rfl rfl
            · (intro wx hwx;(with_reducible apply gq_rdW ((d0) wx hwx));infer_instance;exact rfl;(focus (first|rfl|omega|(simp;done)|(simp;omega))))
            · (simp only [Act.put,sIB,sCS,sCZ];rfl))
         | (apply walk_is rfl rfl rfl
            · (intro wx hwx;first|((with_reducible show gives _ _ _ (Sem.run _ (execOp _ (Oper.mk _ (Op.load _ _) _ _ _ _)) _));first|((with_reducible apply gq_ldW (hm.ext hwx));infer_instance;exact rfl;(focus (repeat first|exact .hd|assumption|apply Has.tl);done);(focus (first|rfl|omega|(simp;done)|(simp;omega)))))|(go_simp;(try go_bits);first|exact gives_same|exact gives_skip|with_reducible exact gives_call (HB.out wx (hx0.trans hwx))))
            · (simp only [Act.put,sIB,sCS,sCZ];rfl))
         | (apply walk_not rfl rfl rfl
            · (simp only [Act.put,sIB,sCS,sCZ];rfl)))
     intro wz hwz
     simp only [zCC,zNR]
     repeat (first|rw [fin_is]|(rw [fin_cons];intro _ _))
     rw [fin_nil]
     try (replace hm:=hm.ext hwz)
     simp only [Act.put,sIB,sCS,sCZ]
     clear r1 d0 hx0
     go_wp2_with (first|((((with_reducible show qSt);first|((with_reducible apply wq_stW hm);exact rfl;infer_instance;exact rfl;exact rfl;(focus (repeat first|exact .hd|assumption|apply Swap.tl);done);(focus (first|rfl|omega|(simp;done)|(simp;omega)));(focus (first|rfl|omega|(simp;done)|(simp;omega)));(focus (first|exact one_map _|(simp [one8,one32,one64];done))))));clear hm;intro w hm))
     simp only [Act.put,sIB,sCS,sCZ]
     go_roundw
     case rel=>exact⟨j,by omega,by go_num,by rw [←HX1.out];exact hm⟩
     case measure=>simp [intOf]<;>omega
end Go.Proofs.YtllnjbiebdkmbaaGreatDoor
