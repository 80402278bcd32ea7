/-
  Texts of the program, walked, and plain ones. Conditions: those written in each theorem.
-/
import Derived.Test.YtneacgpmjlocjaaGreatDoorZTopWrapped0
import Derived.Test.YtneacgpmjlocjaaGreatDoorZTopWrapped10
import Derived.Test.YtneacgpmjlocjaaGreatDoorZTopWrapped11
import Derived.Test.YtneacgpmjlocjaaGreatDoorZTopWrapped5
import Derived.Test.YtneacgpmjlocjaaGreatDoorZTopWrapped3
import Derived.Test.YtneacgpmjlocjaaGreatDoorZTopWrapped8
import Derived.Test.YtneacgpmjlocjaaGreatDoorZTopWrapped6
import Derived.Test.YtneacgpmjlocjaaGreatDoorZTopWrapped9
set_option linter.unusedSimpArgs false
set_option linter.unusedVariables false
set_option maxHeartbeats 16000000
open Go.Lib (hid)
namespace Go.Proofs.YtneacgpmjlocjaaGreatDoor
open Go Go.RowKit
set_option maxRecDepth 100000
def lowF(l:List (BitVec 32)):List (BitVec 64):=looL (frmL l)
def lowLo(L:List (BitVec 64)):BitVec 64:=(nth L 0|||(nth L 1<<<26))|||(nth L 2<<<52)
def lowHi(L:List (BitVec 64)):BitVec 64:=((nth L 2>>>12)|||(nth L 3<<<14))|||(nth L 4<<<40)
def lowB(l:List (BitVec 32)):List Byte:=putL (lowLo (lowF l)) 8++putL (lowHi (lowF l)) 8
theorem lowB_length(l:List (BitVec 32)):(lowB l).length=16:=by rw [lowB,List.length_append,putL_length,putL_length]
theorem plow_any(l:List (BitVec 32))(hl:l.length=5)(w0:World):Gives Tryz.prog 206 #[P32 l] w0 (A8 (lowB l)):=by
 unfold Gives
 have hm:=Own.start w0
 have C1:=hid fun w=>pform_any l hl w
 have C2:=hid fun w=>(show Gives Tryz.prog 208 #[P32 (frmL l)] w (P64 (lowF l))from ploose_any _ (frmL_length l) w)
 have BY:=hid fun w=>(show Gives Tryz.prog 186 #[WV (lowLo (lowF l)) (lowHi (lowF l))] w (A8 (lowB l))from bytes_any _ _ w)
 have B2:=hid fun (a b:BitVec 64)(w:World)=>(show(Instr.build 191 #[(0,v64 a),(1,v64 b)]).run Tryz.prog w= .ok (WV a b) w from by kernel_rfl)
 have lB:=lowB_length l
 have lL:(lowF l).length=5:=looL_length _
 have EL:=hid (show lowLo (lowF l)=(nth (lowF l) 0|||(nth (lowF l) 1<<<26))|||(nth (lowF l) 2<<<52)from rfl)
 have EH:=hid (show lowHi (lowF l)=((nth (lowF l) 2>>>12)|||(nth (lowF l) 3<<<14))|||(nth (lowF l) 4<<<40)from rfl)
 generalize lowB l=F at*
 rw [EL.out,EH.out]at BY
 generalize lowF l=L at*
 generalize frmL l=M at*
 have h1:=Nat.le_of_eq hl
 have h2:=Nat.le_of_eq hl.symm
 have h3:=Nat.le_of_eq lL
 have h4:=Nat.le_of_eq lL.symm
 have h5:=Nat.le_of_eq lB
 have h6:=Nat.le_of_eq lB.symm
 clear hl
 have b2:=B2.out
 go_enter Tryz.func206,Tryz.ntmps206
 go_wp2_with (first|(go_at_call 209;(with_reducible refine(C1.out _).mono ?_);rintro e_ w ⟨rfl,hx_⟩;replace hm:=hm.ext hx_;clear hx_)|(go_at_call 208;(with_reducible refine(C2.out _).mono ?_);rintro e_ w ⟨rfl,hx_⟩;replace hm:=hm.ext hx_;clear hx_)|(go_at_call 186;(with_reducible refine(BY.out _).mono ?_);rintro e_ w ⟨rfl,hx_⟩;replace hm:=hm.ext hx_;clear hx_)|((with_reducible show qLd);first|(refine zA hm ?_)|(refine zB hm ?_))|((with_reducible show qSt);refine zE hm ?_;clear hm;intro w hm)|((first|((with_reducible show qAl);refine zG hm ?_)|((with_reducible show qBx);refine zH hm ?_));clear hm;intro gx_;intro w hm))
 refine rtO hm rfl rfl ⟨rfl,hm.x⟩
def tmX(A B:List (BitVec 64))(i j:Nat):BitVec 64:=if 5≤i+j then(nth A i*nth B j)*5#64 else nth A i*nth B j
def tmJ(A B V:List (BitVec 64))(i:Nat):Nat→List (BitVec 64)
 |0=>V
 |j+1=>setN (tmJ A B V i j) ((i+j)%5) (nth (tmJ A B V i j) ((i+j)%5)+tmX A B i j)
def tmI(A B:List (BitVec 64)):Nat→List (BitVec 64)
 |0=>zer 5
 |i+1=>tmJ A B (tmI A B i) i 5
theorem tmJ_length(A B V:List (BitVec 64))(i j:Nat):(tmJ A B V i j).length=V.length:=by
 induction j with
 |zero=>rfl
 |succ j ih=>rw [tmJ,setN_length,ih]
theorem tmI_length(A B:List (BitVec 64))(i:Nat):(tmI A B i).length=5:=by
 induction i with
 |zero=>exact zer_length
 |succ i ih=>rw [tmI,tmJ_length,ih]
def Low26(l:List (BitVec 64)):Prop:=l.length=5∧∀i,(nth l i).toNat<67108864
theorem tmX_lt(A B:List (BitVec 64))(hA:Low26 A)(hB:Low26 B)(i j:Nat):(tmX A B i j).toNat<36028797018963968:=by
 have a:=hA.2 i
 have b:=hB.2 j
 have m:(nth A i).toNat*(nth B j).toNat≤67108863*67108863:=Nat.mul_le_mul (by omega) (by omega)
 have m1:(nth A i*nth B j).toNat=(nth A i).toNat*(nth B j).toNat:=by rw [BitVec.toNat_mul,Nat.mod_eq_of_lt (by omega)]
 rw [tmX]
 split
 · rw [BitVec.toNat_mul,m1,show(5#64:BitVec 64).toNat=5 from rfl,Nat.mod_eq_of_lt (by omega)];omega
 · rw [m1];omega
theorem tmJ_lt(A B V:List (BitVec 64))(hA:Low26 A)(hB:Low26 B)(n i j:Nat)(hn:n+j≤25)(h:∀k,(nth V k).toNat≤n*36028797018963968):∀k,(nth (tmJ A B V i j) k).toNat≤(n+j)*36028797018963968:=by
 induction j with
 |zero=>exact h
 | succ j ih=>
   intro k
   have hj:=ih (by omega)
   have x:=tmX_lt A B hA hB i j
   have y:=hj ((i+j)%5)
   rw [tmJ]
   by_cases hk:k<(tmJ A B V i j).length
   · rw [nth_set hk]
     split
     · rw [toNat_ad _ _ (by omega)];omega
     · exact Nat.le_trans (hj k) (Nat.mul_le_mul_right _ (by omega))
   · rw [nth_ge (by rw [setN_length];omega)];exact Nat.zero_le _
theorem tmI_lt(A B:List (BitVec 64))(hA:Low26 A)(hB:Low26 B)(i:Nat)(hi:i≤5):∀k,(nth (tmI A B i) k).toNat≤(5*i)*36028797018963968:=by
 induction i with
 | zero=>
   intro k
   rw [tmI]
   by_cases hk:k<5
   · rw [zer,nth_tab hk];exact Nat.zero_le _
   · rw [nth_ge (by rw [zer_length];omega)];exact Nat.zero_le _
 | succ i ih=>
   have:=tmJ_lt A B (tmI A B i) hA hB (5*i) i 5 (by omega) (ih (by omega))
   rw [tmI,show 5*(i+1)=5*i+5 from by omega];exact this
theorem tmI_low(A B:List (BitVec 64))(hA:Low26 A)(hB:Low26 B):Low60 (tmI A B 5):=⟨tmI_length A B 5,fun i=>by have:=tmI_lt A B hA hB 5 (by omega) i;omega⟩
theorem itL_26(l:List (BitVec 64))(h:Low60 l):Low26 (itL l 3):=by
 obtain⟨c1,c2,c3,c4,c5,a1,a2,a3,a4,a5,b0,b1,b2,b3,b4⟩:=car_vals l h
 have w0:=h.2 0
 have w1:=h.2 1
 have w2:=h.2 2
 have w3:=h.2 3
 have w4:=h.2 4
 have L1:(carL l).length=5:=by rw [carL_length,h.1]
 have p0:(nth (carL l) 0).toNat<274877906944:=by omega
 have p1:(nth (carL l) 1).toNat<67108864∧(nth (carL l) 2).toNat<67108864∧(nth (carL l) 3).toNat<67108864∧(nth (carL l) 4).toNat<67108864:=by omega
 clear a1 a2 a3 a4 a5 b0 b1 b2 b3 b4 w0 w1 w2 w3 w4
 have h1:Low60 (carL l):=low_of _ L1 (by omega)
 obtain⟨d1,d2,d3,d4,d5,a1,a2,a3,a4,a5,b0,b1,b2,b3,b4⟩:=car_vals (carL l) h1
 have L2:(carL (carL l)).length=5:=by rw [carL_length,L1]
 have q0:(nth (carL (carL l)) 0).toNat≤67108868:=by omega
 have q1:(nth (carL (carL l)) 1).toNat<67108864∧(nth (carL (carL l)) 2).toNat<67108864∧(nth (carL (carL l)) 3).toNat<67108864∧(nth (carL (carL l)) 4).toNat<67108864:=by omega
 clear a1 a2 a3 a4 a5 b0 b1 b2 b3 b4 p0 p1
 have h2:Low60 (carL (carL l)):=low_of _ L2 (by omega)
 obtain⟨e1,e2,e3,e4,e5,a1,a2,a3,a4,a5,b0,b1,b2,b3,b4⟩:=car_vals (carL (carL l)) h2
 have L3:(carL (carL (carL l))).length=5:=by rw [carL_length,L2]
 have r0:(nth (carL (carL (carL l))) 0).toNat<67108864:=by omega
 have r1:(nth (carL (carL (carL l))) 1).toNat<67108864∧(nth (carL (carL (carL l))) 2).toNat<67108864∧(nth (carL (carL (carL l))) 3).toNat<67108864∧(nth (carL (carL (carL l))) 4).toNat<67108864:=by omega
 clear a1 a2 a3 a4 a5 b0 b1 b2 b3 b4 q0 q1
 refine⟨L3,fun i=> ?_⟩
 show(nth (carL (carL (carL l))) i).toNat<67108864
 by_cases hi:i<5
 · rcases (show i=0∨i=1∨i=2∨i=3∨i=4 by omega)with rfl|rfl|rfl|rfl|rfl<;>omega
 · rw [nth_ge (by omega)];decide
theorem redL_26(l:List (BitVec 64))(h:Low26 l):Low26 (redL l):=by
 rw [redL]
 split
 · rename_i hc
   refine⟨by rw [setN_length,zer_length],fun i=> ?_⟩
   by_cases hi:i<5
   · rw [nth_set (by rw [zer_length];exact hi)]
     split
     · have:=h.2 0
       have hc2:=hc.2
       rw [BitVec.toNat_sub_of_le (by rw [BitVec.le_def];show 67108859≤_;omega)]
       show _-67108859<67108864
       omega
     · rw [zer,nth_tab hi];decide
   · rw [nth_ge (by rw [setN_length,zer_length];omega)];decide
 · exact h
theorem frmL_26(l:List (BitVec 32)):Low26 (lowF l):=⟨looL_length _,fun i=>by
 have h:=(redL_26 _ (itL_26 _ (looL_low l))).2 i
 by_cases hi:i<5
 · rw [lowF,looL,nth_tab hi,frmL,tidL,nth_tab hi,BitVec.toNat_setWidth,BitVec.toNat_setWidth,Nat.mod_eq_of_lt (Nat.lt_of_le_of_lt (Nat.mod_le _ _) (by omega))]
   exact Nat.lt_of_le_of_lt (Nat.mod_le _ _) h
 · rw [nth_ge (by rw [lowF,looL_length];omega)];decide⟩
def timL(a b:List (BitVec 32)):List (BitVec 32):=tidL (tmI (lowF a) (lowF b) 5)
theorem timL_length(a b:List (BitVec 32)):(timL a b).length=5:=tidL_length _
theorem ptimes_any(a b:List (BitVec 32))(ha:a.length=5)(hb:b.length=5)(w0:World):Gives Tryz.prog 204 #[P32 a,P32 b] w0 (P32 (timL a b)):=by
 unfold Gives
 have hm:=Own.start w0
 have F1:=hid fun w=>pform_any a ha w
 have F2:=hid fun w=>pform_any b hb w
 have O1:=hid fun w=>(show Gives Tryz.prog 208 #[P32 (frmL a)] w (P64 (lowF a))from ploose_any _ (frmL_length a) w)
 have O2:=hid fun w=>(show Gives Tryz.prog 208 #[P32 (frmL b)] w (P64 (lowF b))from ploose_any _ (frmL_length b) w)
 have TD:=hid fun w=>(show Gives Tryz.prog 202 #[P64 (tmI (lowF a) (lowF b) 5)] w (P32 (timL a b))from tidy_any _ (tmI_low _ _ (frmL_26 a) (frmL_26 b)) w)
 have lA:(lowF a).length=5:=looL_length _
 have lB:(lowF b).length=5:=looL_length _
 have lF:=timL_length a b
 generalize timL a b=F at*
 generalize lowF a=A at*
 generalize lowF b=B at*
 generalize frmL a=Ma at*
 generalize frmL b=Mb at*
 have h1:=Nat.le_of_eq ha
 have h2:=Nat.le_of_eq ha.symm
 have h3:=Nat.le_of_eq hb
 have h4:=Nat.le_of_eq hb.symm
 have h5:=Nat.le_of_eq lA
 have h6:=Nat.le_of_eq lA.symm
 have h7:=Nat.le_of_eq lB
 have h8:=Nat.le_of_eq lB.symm
 have h9:=Nat.le_of_eq lF
 have h10:=Nat.le_of_eq lF.symm
 have LI:=hid (tmI_length A B)
 have I0:Hid (tmI A B 0=zer 5):=hid rfl
 clear ha hb
 go_enter Tryz.func204,Tryz.ntmps204
 go_wp2_with (first|((first|((with_reducible show qAl);refine zG hm ?_)|((with_reducible show qBx);refine zH hm ?_));clear hm;(first|(have hx_:=g1;clear hx_;(first|(have hx_:=g2;clear hx_;(first|(have hx_:=g3;clear hx_;(first|(have hx_:=g4;clear hx_;intro gx_)|intro g4))|intro g3))|intro g2))|intro g1);intro w hm))
 refine pregion 10 (K2 _ _ 285 ((zer (n:=64) 5).map v64) (A.map v64) (B.map v64)) [6,7,8,9] 49 (by kernel_rfl) (by kernel_rfl) rfl (⟨none,none,none,none,rfl,TwoV.start (hm.ext (drew_ext _))⟩) ?_
 simp only [zTa]
 repeat (first
     |(apply pwalk_mark (T:=[]) 0 [] rfl rfl rfl rfl rfl;(intro vs_ wx hJ_ hn_ hD_;simp only [pwithS];obtain⟨a_,b_,c_,d_,rfl,hT_⟩:=hJ_;obtain rfl:a_=none:=(by simpa using hn_);have hm:=hT_.oa;refine⟨rfl, ?_⟩;refine zG hm ?_;clear hm;intro g_ w_ hm;exact mark_end rfl (hT_.j0 hm)))
     |(apply pwalk_mark (T:=[]) 1 [] rfl rfl rfl rfl rfl;(intro vs_ wx hJ_ hn_ hD_;simp only [pwithS];obtain⟨a_,b_,c_,d_,rfl,hT_⟩:=hJ_;obtain rfl:b_=none:=(by simpa using hn_);have hm:=hT_.ob;refine⟨rfl, ?_⟩;refine zG hm ?_;clear hm;intro g_ w_ hm;exact mark_end rfl (hT_.j1 hm)))
     |(apply pwalk_mark (T:=[(5,PMk 0)]) 2 [] rfl rfl rfl rfl rfl;(intro vs_ wx hJ_ hn_ hD_;simp only [pwithS];obtain⟨a_,b_,c_,d_,rfl,hT_⟩:=hJ_;obtain rfl:c_=none:=(by simpa using hn_);intro x_ hx_;obtain rfl:a_=some x_:=(by simpa [PMk]using hx_);obtain⟨g_,rfl,hm⟩:=hT_.sa;refine⟨rfl, ?_⟩;refine zE hm ?_;clear hm;intro w_ hm;exact mark_end rfl (fun u_=>hT_.j2 hm)))
     |(apply pwalk_mark (T:=[(6,PMk 1)]) 3 [] rfl rfl rfl rfl rfl;(intro vs_ wx hJ_ hn_ hD_;simp only [pwithS];obtain⟨a_,b_,c_,d_,rfl,hT_⟩:=hJ_;obtain rfl:d_=none:=(by simpa using hn_);intro x_ hx_;obtain rfl:b_=some x_:=(by simpa [PMk]using hx_);obtain⟨g_,rfl,hm⟩:=hT_.sb;refine⟨rfl, ?_⟩;refine zE hm ?_;clear hm;intro w_ hm;exact mark_end rfl (fun u_=>hT_.j3 hm)))
     | (apply pwalk_is rfl rfl rfl rfl
        · (intro vs_ wx hJ_;obtain⟨a_,b_,c_,d_,rfl,hT_⟩:=hJ_;have hm:=hT_.low;first|((with_reducible show qGl);first|(exact zJ hm)|(exact zK hm)|(exact zL hm))|(go_simp;(try go_bits);first|exact gives_same|exact gives_skip|with_reducible exact gives_call (F1.out wx)|with_reducible exact gives_call (F2.out wx)|with_reducible exact gives_call (O1.out wx)|with_reducible exact gives_call (O2.out wx)))
        · (simp only [zPu];rfl)))
 intro vs_ wz hJ_ hl_ hall_
 simp only [zZi]
 repeat rw [pfin_is]
 rw [pfin_cons];intro x5 hx5
 repeat rw [pfin_is]
 rw [pfin_cons];intro x6 hx6
 repeat rw [pfin_is]
 rw [pfin_cons];intro y5 hy5
 repeat rw [pfin_is]
 rw [pfin_cons];intro y6 hy6
 repeat rw [pfin_is]
 rw [pfin_nil]
 simp only [zPu]
 obtain⟨a_,b_,c_,d_,rfl,hT_⟩:=hJ_
 obtain⟨p_,q_,r_,s_,rfl,rfl,rfl,rfl⟩:=some4 hall_
 clear hm
 obtain⟨g5_,g6_,rfl,rfl,hm⟩:=hT_.fin
 obtain rfl:=pmk0 hx5
 obtain rfl:=pmk1 hx6
 clear hT_ hl_ hall_ hx5 hx6 hy5 hy6 y5 y6
 go_wp2_with (first|(((with_reducible show qAl);refine zG hm ?_);clear hm;(first|(have hx_:=g1;clear hx_;(first|(have hx_:=g2;clear hx_;(first|(have hx_:=g3;clear hx_;(first|(have hx_:=g4;clear hx_;intro gx_)|intro g4))|intro g3))|intro g2))|intro g1);intro w hm))
 go_loopw [17] (fun i wr=>∃i_:Nat,i_≤5∧i= .int .i64 i_∧Own w0 wr [⟨g4,285,(tmI A B i_).map v64⟩,⟨g5_,285,A.map v64⟩,⟨g6_,285,B.map v64⟩,⟨g3,276,(zer (n:=32) 5).map v32⟩,⟨g2,276,b.map v32⟩,⟨g1,276,a.map v32⟩]) (fun i _=>5-(intOf i).toNat)
 case atStart=>exact⟨0,by omega,rfl,by rw [I0.out];exact hm⟩
 case round=>
   obtain⟨i,hi,rfl,hm⟩:=hrel
   by_cases hli:i<5
   · have hd : decide ((i:Int)<5)=true:=decide_eq_true (by omega)
     have hd2:(i:Int)<5:=by omega
     have EI:=hid (show tmI A B (i+1)=tmJ A B (tmI A B i) i 5 from rfl)
     have lV:=LI.out i
     generalize tmI A B i=V at*
     have LJ:=hid fun j=>(show(tmJ A B V i j).length=5 from by rw [tmJ_length];exact lV)
     have J0:Hid (tmJ A B V i 0=V):=hid rfl
     go_wp2_with fail
     go_loopw [20] (fun i_ wr=>∃j:Nat,j≤5∧i_= .int .i64 j∧Own w0 wr [⟨g4,285,(tmJ A B V i j).map v64⟩,⟨g5_,285,A.map v64⟩,⟨g6_,285,B.map v64⟩,⟨g3,276,(zer (n:=32) 5).map v32⟩,⟨g2,276,b.map v32⟩,⟨g1,276,a.map v32⟩]) (fun i_ _=>5-(intOf i_).toNat)
     case atStart=>exact⟨0,by omega,rfl,by rw [J0.out];exact hm⟩
     case round=>
       obtain⟨j,hj,rfl,hm⟩:=hrel
       by_cases hlj:j<5
       · have hd3 :decide ((j:Int)<5)=true:=decide_eq_true (by omega)
         have hd4:(j:Int)<5:=by omega
         obtain⟨q,hq⟩:∃q,(i+j)%5=q:=⟨_,rfl⟩
         have mq:((i:Int)+(j:Int)).tmod 5=(q:Int):=by rw [Int.tmod_eq_emod_of_nonneg (by omega)];omega
         have q5:q<5:=by omega
         have q6:(q:Int)<5:=by omega
         have EJ:=hid (show tmJ A B V i (j+1)=setN (tmJ A B V i j) q (nth (tmJ A B V i j) q+tmX A B i j)from by rw [tmJ,hq])
         have lJ:=LJ.out j
         clear hq
         generalize tmJ A B V i j=W at*
         by_cases h5:5≤i+j
         · have d1:decide ((5:Int)≤(i:Int)+(j:Int))=true:=decide_eq_true (by omega)
           have d2:(5:Int)≤(i:Int)+(j:Int):=by omega
           have d3:decide ((i:Int)+(j:Int)≥5)=true:=decide_eq_true (by omega)
           have EX:Hid (tmX A B i j=(nth A i*nth B j)*5#64):=hid (if_pos h5)
           go_wp2_with fail
           refine rgE 8 49 ?_
           simp only [zTa]
           repeat (first
               | (apply walk_is rfl rfl rfl
                  · (intro wx hwx;first|((with_reducible show qGl);exact zJ (hm.ext hwx))|(go_simp;(try go_bits);first|exact gives_same|exact gives_skip))
                  · (simp only [zPu];rfl))
               | (apply walk_not rfl rfl rfl
                  · (simp only [zPu];rfl)))
           intro wz hwz
           simp only [zZi]
           repeat (first|rw [fin_is]|(rw [fin_cons];intro _ _))
           rw [fin_nil]
           try (replace hm:=hm.ext hwz)
           simp only [zPu]
           go_wp2_with (first|((with_reducible show qLd);refine zA hm ?_)|((with_reducible show qSt);refine zD hm ?_;clear hm;intro w hm))
           go_roundw
           case rel=>exact⟨j+1,by omega,by go_num,by rw [EJ.out,EX.out];exact hm⟩
           case measure=>simp [intOf]<;>omega
         · have d1:decide ((5:Int)≤(i:Int)+(j:Int))=false:=decide_eq_false (by omega)
           have d2:¬(5:Int)≤(i:Int)+(j:Int):=by omega
           have d3:decide ((i:Int)+(j:Int)≥5)=false:=decide_eq_false (by omega)
           have EX:Hid (tmX A B i j=nth A i*nth B j):=hid (if_neg h5)
           go_wp2_with fail
           refine rgE 8 49 ?_
           simp only [zTa]
           repeat (first
               | (apply walk_is rfl rfl rfl
                  · (intro wx hwx;first|((with_reducible show qGl);exact zJ (hm.ext hwx))|(go_simp;(try go_bits);first|exact gives_same|exact gives_skip))
                  · (simp only [zPu];rfl))
               | (apply walk_not rfl rfl rfl
                  · (simp only [zPu];rfl)))
           intro wz hwz
           simp only [zZi]
           repeat (first|rw [fin_is]|(rw [fin_cons];intro _ _))
           rw [fin_nil]
           try (replace hm:=hm.ext hwz)
           simp only [zPu]
           go_wp2_with (first|((with_reducible show qLd);refine zA hm ?_)|((with_reducible show qSt);refine zD hm ?_;clear hm;intro w hm))
           go_roundw
           case rel=>exact⟨j+1,by omega,by go_num,by rw [EJ.out,EX.out];exact hm⟩
           case measure=>simp [intOf]<;>omega
       · obtain rfl:j=5:=by omega
         have hd3:decide (((5:Nat):Int)<5)=false:=decide_eq_false (by omega)
         rw [←EI.out]at hm
         go_wp2_with fail
         go_roundw
         case rel=>exact⟨i+1,by omega,by go_num,hm⟩
         case measure=>simp [intOf]<;>omega
   · obtain rfl:i=5:=by omega
     have hd:decide (((5:Nat):Int)<5)=false:=decide_eq_false (by omega)
     have lI:=LI.out 5
     have li1:=Nat.le_of_eq lI
     have li2:=Nat.le_of_eq lI.symm
     generalize tmI A B 5=V at*
     go_wp2_with (first|(go_at_call 202;(with_reducible refine(TD.out _).mono ?_);rintro e_ w ⟨rfl,hx_⟩;replace hm:=hm.ext hx_;clear hx_)|((with_reducible show qLd);refine zB hm ?_)|((with_reducible show qSt);refine zE hm ?_;clear hm;intro w hm))
     refine rtO hm rfl rfl ⟨rfl,hm.x⟩
abbrev W2:=BitVec 64×BitVec 64
abbrev WP(x:W2):Value:=WV x.1 x.2
def upW(x:W2):W2:=((x.1<<<1)^^^(x.2>>>63),((x.2<<<1)^^^(x.1>>>63))^^^((x.2>>>63)*13979173243358019584#64))
def downW(x:W2):W2:=((x.1>>>1)^^^(x.2<<<63),(x.2>>>1)^^^((x.1&&&1#64)*16212958658533785600#64))
def plusW(x y:W2)(f:BitVec 64):W2:=(x.1^^^(f*y.1),x.2^^^(f*y.2))
def bitW(x:W2)(i:Nat):BitVec 64:=if i<64 then(x.1>>>i)&&&1#64 else(x.2>>>(i-64))&&&1#64
@[local go_sem] theorem build_w2 (a b : BitVec 64) (w : World) : (Instr.build 191 #[(0, v64 a), (1, v64 b)]).run Tryz.prog w = .ok (WV a b) w := by kernel_rfl
theorem riup_any(x:W2)(w0:World):Gives Tryz.prog 230 #[WP x] w0 (WP (upW x)):=by
 unfold Gives
 have hm:=Own.start w0
 obtain⟨lo,hi⟩:=x
 have E:=hid (show upW (lo,hi)=((lo<<<1)^^^(hi>>>63),((hi<<<1)^^^(lo>>>63))^^^((hi>>>63)*13979173243358019584#64))from rfl)
 go_enter Tryz.func230,Tryz.ntmps230
 go_wp2_with (first|((with_reducible show qLd);refine zC hm ?_)|((with_reducible show qSt);refine zE hm ?_;clear hm;intro w hm)|((first|((with_reducible show qAl);refine zG hm ?_)|((with_reducible show qBx);refine zH hm ?_));clear hm;intro gx_;intro w hm))
 refine rtO hm rfl rfl ⟨rfl,hm.x⟩
theorem ridown_any(x:W2)(w0:World):Gives Tryz.prog 231 #[WP x] w0 (WP (downW x)):=by
 unfold Gives
 have hm:=Own.start w0
 obtain⟨lo,hi⟩:=x
 go_enter Tryz.func231,Tryz.ntmps231
 go_wp2_with (first|((with_reducible show qLd);refine zC hm ?_)|((with_reducible show qSt);refine zE hm ?_;clear hm;intro w hm)|((first|((with_reducible show qAl);refine zG hm ?_)|((with_reducible show qBx);refine zH hm ?_));clear hm;intro gx_;intro w hm))
 refine rtO hm rfl rfl ⟨rfl,hm.x⟩
theorem riplus_any(x y:W2)(f:BitVec 64)(w0:World):Gives Tryz.prog 229 #[WP x,WP y,v64 f] w0 (WP (plusW x y f)):=by
 unfold Gives
 have hm:=Own.start w0
 obtain⟨lo,hi⟩:=x
 obtain⟨lp,hp⟩:=y
 go_enter Tryz.func229,Tryz.ntmps229
 go_wp2_with (first|((with_reducible show qLd);refine zC hm ?_)|((with_reducible show qSt);refine zE hm ?_;clear hm;intro w hm)|((first|((with_reducible show qAl);refine zG hm ?_)|((with_reducible show qBx);refine zH hm ?_));clear hm;intro gx_;intro w hm))
 refine rtO hm rfl rfl ⟨rfl,hm.x⟩
theorem ribit_any(x:W2)(i:Nat)(h:i<128)(w0:World):Gives Tryz.prog 232 #[WP x, .int .i64 (i:Int)] w0 (v64 (bitW x i)):=by
 unfold Gives
 have hm:=Own.start w0
 obtain⟨lo,hi⟩:=x
 by_cases h6:i<64
 · have e:Hid (bitW (lo,hi) i=(lo>>>i)&&&1#64):=hid (if_pos h6)
   have d1:decide ((i:Int)<64)=true:=decide_eq_true (by omega)
   have d2:(i:Int)<64:=by omega
   go_enter Tryz.func232,Tryz.ntmps232
   go_wp2_with (first|((with_reducible show qLd);refine zC hm ?_)|(((with_reducible show qBx);refine zH hm ?_);clear hm;intro gx_;intro w hm))
   go_ret
   exact⟨by rw [e.out];rfl,hm.x⟩
 · obtain⟨j,rfl⟩:∃j,i=64+j:=⟨i-64,by omega⟩
   have e:Hid (bitW (lo,hi) (64+j)=(hi>>>j)&&&1#64):=hid (by rw [bitW,if_neg h6,show 64+j-64=j from by omega])
   have d1:decide (((64+j:Nat):Int)<64)=false:=decide_eq_false (by omega)
   have d2:¬((64+j:Nat):Int)<64:=by omega
   have d3:((64+j:Nat):Int)-64=(j:Int):=by omega
   go_enter Tryz.func232,Tryz.ntmps232
   go_wp2_with (first|((with_reducible show qLd);refine zC hm ?_)|(((with_reducible show qBx);refine zH hm ?_);clear hm;intro gx_;intro w hm))
   go_ret
   exact⟨by rw [e.out];rfl,hm.x⟩
def dotF(x y:W2):Nat→W2
 |0=>(0#64,0#64)
 |i+1=>downW (plusW (dotF x y i) x (bitW y i))
theorem ridot_any(x y:W2)(w0:World):Gives Tryz.prog 228 #[WP x,WP y] w0 (WP (dotF x y 128)):=by
 unfold Gives
 have hm:=Own.start w0
 have B1:=hid fun (i:Nat)(h:i<128)(w:World)=>ribit_any y i h w
 have P1:=hid fun (a b:W2)(f:BitVec 64)(w:World)=>riplus_any a b f w
 have D1:=hid fun (a:W2)(w:World)=>ridown_any a w
 go_enter Tryz.func228,Tryz.ntmps228
 go_wp2_with (first|((first|((with_reducible show qAl);refine zG hm ?_)|((with_reducible show qBx);refine zH hm ?_));clear hm;(first|(have hx_:=g1;clear hx_;(first|(have hx_:=g2;clear hx_;(first|(have hx_:=g3;clear hx_;(first|(have hx_:=g4;clear hx_;intro gx_)|intro g4))|intro g3))|intro g2))|intro g1);intro w hm))
 go_loopw [7] (fun i wr=>∃k:Nat,k≤128∧i= .int .i64 k∧Own w0 wr [⟨g4,191,[v64 (dotF x y k).1,v64 (dotF x y k).2]⟩,⟨g3,191,[v64 0#64,v64 0#64]⟩,⟨g2,191,[v64 y.1,v64 y.2]⟩,⟨g1,191,[v64 x.1,v64 x.2]⟩]) (fun i _=>128-(intOf i).toNat)
 case atStart=>exact⟨0,by omega,rfl,hm⟩
 case round =>
   obtain⟨k,hk,rfl,hm⟩:=hrel
   by_cases hlt:k<128
   · have hd:decide ((k:Int)<128)=true:=decide_eq_true (by omega)
     have hd2:(k:Int)<128:=by omega
     have EK:Hid (dotF x y (k+1)=downW (plusW (dotF x y k) x (bitW y k))):=hid rfl
     generalize dotF x y k=S at*
     go_wp2_with fail
     refine rgE 7 19 ?_
     simp only [zTa]
     repeat (first
         | (apply walk_is rfl rfl rfl
            · (intro wx hwx;first|((with_reducible show qGl);exact zK (hm.ext hwx))|(go_simp;(try go_bits);first|exact gives_same|exact gives_skip|with_reducible exact gives_call (B1.out k hlt wx)|with_reducible exact gives_call (P1.out S x _ wx)|with_reducible exact gives_call (D1.out _ wx)))
            · (simp only [zPu];rfl))
         | (apply walk_not rfl rfl rfl
            · (simp only [zPu];rfl)))
     intro wz hwz
     simp only [zZi]
     repeat (first|rw [fin_is]|(rw [fin_cons];intro _ _))
     rw [fin_nil]
     try (replace hm:=hm.ext hwz)
     simp only [zPu]
     go_wp2_with (first|((with_reducible show qSt);refine zE hm ?_;clear hm;intro w hm))
     go_roundw
     case rel=>exact⟨k+1,by omega,by go_num,by rw [EK.out];exact hm⟩
     case measure=>simp [intOf]<;>omega
   · obtain rfl:k=128:=by omega
     have hd:decide (((128:Nat):Int)<128)=false:=decide_eq_false (by omega)
     go_wp2_with (first|((with_reducible show qLd);refine zB hm ?_)|((with_reducible show qSt);refine zE hm ?_;clear hm;intro w hm))
     refine rtO hm rfl rfl ⟨rfl,hm.x⟩
theorem run_rowN {P:Program}{w:World}{g k:Nat}{t T:TypeId}{cs cs':List Value}{n:Nat}(h:Row w g t cs)[hT:Many P T n](hv:(cs.drop k).take n=cs')(hn:cs'.length=n):(Instr.loadAt T (.pointer (some ⟨g,k,none⟩))).run P w= .ok (.agg cs'.toArray) w:=by
 obtain⟨d,hu,hd⟩:=Option.map_eq_some_iff.1 hT.row
 refine run_loadAt_mid w g k T cs' d (fun j v hj=> ?_) hu hd (by rw [hn];exact hT.size)
 rw [row_cell h]
 subst hv
 rw [List.getElem?_take]at hj
 split at hj
 · rwa [List.getElem?_drop]at hj
 · cases hj
theorem gq_rowN {P:Program}{a:Act}{w:World}{g k n:Nat}{t T ty:TypeId}{cs cs':List Value}{dst:Option Tmp}{x:Operand}{pos:String}{aft:Array Edge}{gd:Option (Nat×Bool)}(h:Row w g t cs)(hT:Many P T n)(hx:a.eval x= .pointer (some ⟨g,k,none⟩))(hv:(cs.drop k).take n=cs')(hn:cs'.length=n):gives P w (Is (.agg cs'.toArray)) ((execOp a.eval (Oper.mk dst (.load T x) ty pos aft gd)).run P w):=by
 unfold execOp
 simp only [hx,Sem.run_bind,run_rowN h hv hn,Result.andThen_ok,Sem.run_pure]
 exact gives_same
theorem wq_rowN {P:Program}{ops:Array Oper}{Q:Exit→Act→World→Prop}{rest:List Oper}{a:Act}{w:World}{g k n:Nat}{t T ty:TypeId}{cs cs':List Value}{dst:Option Tmp}{x:Operand}{pos:String}{aft:Array Edge}{gd:Option (Nat×Bool)}(h:Row w g t cs)(hgd:Region.wanted (Oper.mk dst (.load T x) ty pos aft gd) (yielded ops a.tmps)=true)(hT:Many P T n)(hx:a.eval x= .pointer (some ⟨g,k,none⟩))(hv:(cs.drop k).take n=cs')(hn:cs'.length=n)(hr:wpList P ops Q rest (a.put dst (.agg cs'.toArray)) w):wpList P ops Q (Oper.mk dst (.load T x) ty pos aft gd::rest) a w:=
 wpList_want hgd fun K hK=>by
   unfold Oper.wp execOp
   simp only [hx,Sem.run_bind,run_rowN h hv hn,Result.andThen_ok,Sem.run_pure]
   exact hK _ _ hr
theorem two_at(l:List (BitVec 64))(n:Nat)(h:2*n+1<l.length):((l.map v64).drop (2*n)).take 2=[v64 (nth l (2*n)),v64 (nth l (2*n+1))]:=by
 rw [List.drop_eq_getElem_cons (by rw [List.length_map];omega),List.drop_eq_getElem_cons (by rw [List.length_map];omega),tSC,tSC,tZe,List.getElem_map,List.getElem_map,nth_get (by omega),nth_get h]
def ent(l:List (BitVec 64))(n:Nat):W2:=(nth l (2*n),nth l (2*n+1))
def upK(s:W2):Nat→W2
 |0=>s
 |j+1=>upW (upK s j)
def nibF(l:List (BitVec 64))(s:W2)(n:Byte):W2:=plusW (upK s 4) (ent l n.toNat) 1#64
def nb2(l:List (BitVec 64))(s:W2)(x y:Byte):Nat→W2
 |0=>s
 |1=>nibF l s x
 |_=>nibF l (nibF l s x) y
def dtF(l:List (BitVec 64))(a:List Byte):Nat→W2
 |0=>(0#64,0#64)
 |i+1=>nb2 l (dtF l a i) (nth a (15-i)>>>4) (nth a (15-i)&&&15#8) 2
def dotT(l:List (BitVec 64))(a:List Byte):List Byte:=putL (dtF l a 16).1 8++putL (dtF l a 16).2 8
theorem ritdot_any (g:Nat)(l:List (BitVec 64))(hl:l.length=32)(a:List Byte)(ha:a.length=16)(w0:World)(h:Row w0 g 304 (l.map v64)):Gives Tryz.prog 227 #[.pointer (some ⟨g,0,none⟩),A8 a] w0 (A8 (dotT l a)):=by
 unfold Gives
 have hm:=Own.start w0
 have HT:=hid fun wx (hx:Ext w0 wx)=>row_ext h hx
 have HL:=hid hl
 have U1:=hid fun (s:W2)(w:World)=>riup_any s w
 have P1:=hid fun (s b:W2)(f:BitVec 64)(w:World)=>riplus_any s b f w
 have PL:=hid fun (s:W2)(n:Nat)(w:World)=>show Gives Tryz.prog 229 #[WP s, .agg #[v64 (nth l (2*n)),v64 (nth l (2*n+1))], .int .u64 1] w (WP (plusW s (ent l n) 1#64))from riplus_any s (ent l n) 1#64 w
 have ED:Hid (dotT l a=putL (dtF l a 16).1 8++putL (dtF l a 16).2 8):=hid rfl
 have ha1:=Nat.le_of_eq ha
 have ha2:=Nat.le_of_eq ha.symm
 clear h hl ha
 go_enter Tryz.func227,Tryz.ntmps227
 go_wp2_with (first|((first|((with_reducible show qAl);refine zG hm ?_)|((with_reducible show qBx);refine zH hm ?_));clear hm;(first|(have hx_:=g1;clear hx_;(first|(have hx_:=g2;clear hx_;(first|(have hx_:=g3;clear hx_;intro gx_)|intro g3))|intro g2))|intro g1);intro w hm))
 go_loopw [13] (fun i wr=>∃k:Nat,k≤16∧i= .int .i64 k∧Own w0 wr [⟨g3,191,[v64 (dtF l a k).1,v64 (dtF l a k).2]⟩,⟨g2,132,(zer 16).map v8⟩,⟨g1,132,a.map v8⟩]) (fun i _=>16-(intOf i).toNat)
 case atStart=>exact⟨0,by omega,rfl,hm⟩
 case round =>
   obtain⟨k,hk,rfl,hm⟩:=hrel
   by_cases hlt:k<16
   · have hd : decide ((k:Int)<16)=true:=decide_eq_true (by omega)
     have hd2:(k:Int)<16:=by omega
     have EK:Hid (dtF l a (k+1)=nb2 l (dtF l a k) (nth a (15-k)>>>4) (nth a (15-k)&&&15#8) 2):=hid rfl
     have i1:(15:Int)-(k:Int)=((15-k:Nat):Int):=by omega
     generalize dtF l a k=S at*
     go_wp2_with (first|((with_reducible show qLd);refine zA hm ?_))
     obtain⟨B,hB⟩:∃B,B=nth a (15-k):=⟨_,rfl⟩
     rw [←hB]at EK⊢
     obtain⟨x,hx⟩:=exq (B>>>4)
     obtain⟨y,hy⟩:∃y,y=B&&&15#8:=⟨_,rfl⟩
     have hx4:x.toNat<16:=by rw [hx,BitVec.toNat_ushiftRight,Nat.shiftRight_eq_div_pow];have:=B.isLt;omega
     have hy4:y.toNat<16:=by rw [hy,BitVec.toNat_and];exact Nat.lt_of_le_of_lt Nat.and_le_right (by decide)
     rw [←hx,←hy]at EK⊢
     have IX:=fun (j:Nat)(hj:j<2)(w:World)=>show(Instr.index 307 (.agg #[v8 x,v8 y]) (.int .i64 (j:Int))).run Tryz.prog w= .ok (v8 (nth [x,y] j)) w from run_index_v (P:=Tryz.prog) (T:=307) (e:=5) (f:=v8) (by kernel_rfl) [x,y] rfl j hj w
     have NX:=hid fun (j:Nat)(hj:j<2)=>(show(nth [x,y] j).toNat<16 from by
       rcases (show j=0∨j=1 by omega)with rfl|rfl
       · exact hx4
       · exact hy4)
     have NB:=hid fun (j:Nat)(hj:j<2)=>(show nb2 l S x y (j+1)=nibF l (nb2 l S x y j) (nth [x,y] j)from by
       rcases (show j=0∨j=1 by omega)with rfl|rfl<;>rfl)
     have IX:=hid IX
     have NZ:Hid (nb2 l S x y 0=S):=hid rfl
     clear hB hx hy hx4 hy4
     go_loopw [25] (fun i wr=>∃j:Nat,j≤2∧i= .int .i64 j∧Own w0 wr [⟨g3,191,[v64 (nb2 l S x y j).1,v64 (nb2 l S x y j).2]⟩,⟨g2,132,(zer 16).map v8⟩,⟨g1,132,a.map v8⟩]) (fun i _=>2-(intOf i).toNat)
     case atStart=>exact⟨0,by omega,rfl,by rw [NZ.out];exact hm⟩
     case round =>
       obtain⟨j,hj,rfl,hm⟩:=hrel
       by_cases hlj:j<2
       · have hd3 : decide ((j:Int)<2)=true:=decide_eq_true (by omega)
         have hd4:(j:Int)<2:=by omega
         obtain⟨N,hN⟩:∃N,N=nth [x,y] j:=⟨_,rfl⟩
         have nx:N.toNat<16:=by rw [hN];exact NX.out j hlj
         have nx2:(N.toNat:Int)<16:=by omega
         have NB1:Hid (nb2 l S x y (j+1)=nibF l (nb2 l S x y j) N):=hid (by rw [hN];exact NB.out j hlj)
         have HN:=hid hN
         clear hN
         generalize nb2 l S x y j=V at*
         have UZ:Hid (upK V 0=V):=hid rfl
         have TE:=hid (show((l.map v64).drop (N.toNat*2)).take 2=[v64 (nth l (2*N.toNat)),v64 (nth l (2*N.toNat+1))]from by rw [Nat.mul_comm];exact two_at l N.toNat (by rw [HL.out];omega))
         have NBF:Hid (nibF l V N=plusW (upK V 4) (ent l N.toNat) 1#64):=hid rfl
         go_wp2_with fail
         rw [←HN.out]
         go_loopw [28] (fun i wr=>∃t:Nat,t≤4∧i= .int .i64 t∧Own w0 wr [⟨g3,191,[v64 (upK V t).1,v64 (upK V t).2]⟩,⟨g2,132,(zer 16).map v8⟩,⟨g1,132,a.map v8⟩]) (fun i _=>4-(intOf i).toNat)
         case atStart=>exact⟨0,by omega,rfl,by rw [UZ.out];exact hm⟩
         case round =>
           obtain⟨t,ht,rfl,hm⟩:=hrel
           by_cases hlt4:t<4
           · have hd5:decide ((t:Int)<4)=true:=decide_eq_true (by omega)
             have hd6:(t:Int)<4:=by omega
             have UK:Hid (upK V (t+1)=upW (upK V t)):=hid rfl
             generalize upK V t=T at*
             go_wp2_with (first|(go_at_call 230;(with_reducible refine(U1.out _ _).mono ?_);rintro e_ w ⟨rfl,hx_⟩;replace hm:=hm.ext hx_;clear hx_)|((with_reducible show qLd);refine zB hm ?_)|((with_reducible show qSt);refine zE hm ?_;clear hm;intro w hm))
             go_roundw
             case rel=>exact⟨t+1,by omega,by go_num,by rw [UK.out];exact hm⟩
             case measure=>simp [intOf]<;>omega
           · obtain rfl:t=4:=by omega
             have hd5:decide (((4:Nat):Int)<4)=false:=decide_eq_false (by omega)
             generalize upK V 4=T at*
             go_wp2_with fail
             have ht0:=fun wx (hwx:Ext wr wx)=>HT.out wx (hm.x.trans hwx)
             refine rgE 8 45 ?_
             simp only [zTa]
             repeat (first
                 |(apply walk_is rfl rfl rfl;(intro wx hwx;(with_reducible apply gq_rowN (ht0 wx hwx));infer_instance;exact rfl;exact TE.out;exact rfl);(simp only [zPu];rfl))
                 | (apply walk_is rfl rfl rfl
                    · (intro wx hwx;first|((with_reducible show qGl);exact zK (hm.ext hwx))|(go_simp;(try go_bits);first|exact gives_same|exact gives_skip|with_reducible exact gives_call (PL.out T N.toNat wx)))
                    · (simp only [zPu];rfl))
                 | (apply walk_not rfl rfl rfl
                    · (simp only [zPu];rfl)))
             intro wz hwz
             simp only [zZi]
             repeat (first|rw [fin_is]|(rw [fin_cons];intro _ _))
             rw [fin_nil]
             try (replace hm:=hm.ext hwz)
             simp only [zPu]
             clear ht0
             go_wp2_with (first|((with_reducible show qSt);refine zE hm ?_;clear hm;intro w hm))
             go_roundw
             case rel=>exact⟨j+1,by omega,by go_num,by rw [NB1.out,NBF.out];exact hm⟩
             case measure=>simp [intOf]<;>omega
       · obtain rfl:j=2:=by omega
         have hd3:decide (((2:Nat):Int)<2)=false:=decide_eq_false (by omega)
         go_wp2_with fail
         go_roundw
         case rel=>exact⟨k+1,by omega,by go_num,by rw [EK.out];exact hm⟩
         case measure=>simp [intOf]<;>omega
   · obtain rfl:k=16:=by omega
     have hd:decide (((16:Nat):Int)<16)=false:=decide_eq_false (by omega)
     have lD:(dotT l a).length=16:=by rw [ED.out,List.length_append,putL_length,putL_length]
     rw [ED.out]at lD
     go_wp2_with (first|(go_at_call 186;(with_reducible refine(bytes_any _ _ _).mono ?_);rintro e_ w ⟨rfl,hx_⟩;replace hm:=hm.ext hx_;clear hx_)|((with_reducible show qLd);refine zB hm ?_)|((with_reducible show qSt);refine zE hm ?_;clear hm;intro w hm))
     refine rtO hm rfl rfl ⟨rfl,hm.x⟩
def clA(key:List Byte):Nat→List Byte
 |0=>key
 |k+1=>setN (clA key k) (3+4*k) (nth (clA key k) (3+4*k)&&&15#8)
def clB(key:List Byte):Nat→List Byte
 |0=>clA key 4
 |k+1=>setN (clB key k) (4+4*k) (nth (clB key k) (4+4*k)&&&252#8)
theorem clA_length(key:List Byte)(k:Nat):(clA key k).length=key.length:=by
 induction k with
 |zero=>rfl
 |succ k ih=>rw [clA,setN_length,ih]
theorem clB_length(key:List Byte)(k:Nat):(clB key k).length=key.length:=by
 induction k with
 |zero=>exact clA_length key 4
 |succ k ih=>rw [clB,setN_length,ih]
theorem clamp_any(key:List Byte)(hk:key.length=16)(w0:World):Gives Tryz.prog 198 #[A8 key] w0 (A8 (clB key 3)):=by
 unfold Gives
 have hm:=Own.start w0
 have LA:=hid fun k=>(show(clA key k).length=16 from by rw [clA_length];exact hk)
 have LB:=hid fun k=>(show(clB key k).length=16 from by rw [clB_length];exact hk)
 have A0:Hid (clA key 0=key):=hid rfl
 have B0:Hid (clB key 0=clA key 4):=hid rfl
 have h1:=Nat.le_of_eq hk
 have h2:=Nat.le_of_eq hk.symm
 clear hk
 go_enter Tryz.func198,Tryz.ntmps198
 go_wp2_with (first|((first|((with_reducible show qAl);refine zG hm ?_)|((with_reducible show qBx);refine zH hm ?_));clear hm;(first|(have hx_:=g1;clear hx_;(first|(have hx_:=g2;clear hx_;intro gx_)|intro g2))|intro g1);intro w hm))
 go_loopw [3] (fun i wr=>∃k:Nat,k≤4∧i= .int .i64 ((3+4*k:Nat):Int)∧Own w0 wr [⟨g2,132,(zer 16).map v8⟩,⟨g1,132,(clA key k).map v8⟩]) (fun i _=>20-(intOf i).toNat)
 case atStart=>exact⟨0,by omega,rfl,by rw [A0.out];exact hm⟩
 case round=>
   obtain⟨k,hk,rfl,hm⟩:=hrel
   have lV:=LA.out k
   by_cases hlt:k<4
   · have hd:decide (((3+4*k:Nat):Int)<16)=true:=decide_eq_true (by omega)
     have hd2:((3+4*k:Nat):Int)<16:=by omega
     have EK:=hid (show clA key (k+1)=setN (clA key k) (3+4*k) (nth (clA key k) (3+4*k)&&&15#8)from rfl)
     generalize clA key k=V at*
     obtain⟨i,hi⟩:∃i,i=3+4*k:=⟨_,rfl⟩
     have HI:=hid hi
     rw [←hi]at hd hd2 EK⊢
     have hi16:i<16:=by omega
     clear hi
     go_wp2_with (first|((with_reducible show qLd);refine zA hm ?_)|((with_reducible show qSt);refine zD hm ?_;clear hm;intro w hm))
     go_roundw
     case rel=>exact⟨k+1,by omega,by have:=HI.out;simp only [Value.int.injEq,true_and];omega,by rw [EK.out];exact hm⟩
     case measure=>simp [intOf]<;>omega
   · obtain rfl:k=4:=by omega
     rw [←B0.out]at hm
     go_wp2_with fail
     rw [show((3+4*4:Nat):Int)=19 from rfl]
     go_loopw [4] (fun i wr=>∃k:Nat,k≤3∧i= .int .i64 ((4+4*k:Nat):Int)∧Own w0 wr [⟨g2,132,(zer 16).map v8⟩,⟨g1,132,(clB key k).map v8⟩]) (fun i _=>20-(intOf i).toNat)
     case atStart=>exact⟨0,by omega,rfl,hm⟩
     case round=>
       obtain⟨k,hk,rfl,hm⟩:=hrel
       have lW:=LB.out k
       by_cases hlt:k<3
       · have hd:decide (((4+4*k:Nat):Int)<16)=true:=decide_eq_true (by omega)
         have hd2:((4+4*k:Nat):Int)<16:=by omega
         have EK:=hid (show clB key (k+1)=setN (clB key k) (4+4*k) (nth (clB key k) (4+4*k)&&&252#8)from rfl)
         generalize clB key k=V at*
         obtain⟨i,hi⟩:∃i,i=4+4*k:=⟨_,rfl⟩
         have HI:=hid hi
         rw [←hi]at hd hd2 EK⊢
         have hi16:i<16:=by omega
         clear hi
         go_wp2_with (first|((with_reducible show qLd);refine zA hm ?_)|((with_reducible show qSt);refine zD hm ?_;clear hm;intro w hm))
         go_roundw
         case rel=>exact⟨k+1,by omega,by have:=HI.out;simp only [Value.int.injEq,true_and];omega,by rw [EK.out];exact hm⟩
         case measure=>simp [intOf]<;>omega
       · obtain rfl:k=3:=by omega
         have l1:=Nat.le_of_eq lW
         have l2:=Nat.le_of_eq lW.symm
         go_wp2_with (first|((with_reducible show qLd);refine zB hm ?_)|((with_reducible show qSt);refine zE hm ?_;clear hm;intro w hm))
         refine rtO hm rfl rfl ⟨rfl,hm.x⟩
def psC(by_ v:List (BitVec 32))(rest:List Byte)(many:Nat):List Value:=by_.map v32++(v.map v32++(rest.map v8++[.int .i64 (many:Int)]))
theorem psC_by(b v:List (BitVec 32))(r:List Byte)(m:Nat)(hb:b.length=5):((psC b v r m).drop 0).take 5=b.map v32:=by
 rw [dZe,psC,List.take_append_of_le_length (by rw [List.length_map];omega),List.take_of_length_le (by rw [List.length_map];omega)]
theorem psC_v(b v:List (BitVec 32))(r:List Byte)(m:Nat)(hb:b.length=5)(hv:v.length=5):((psC b v r m).drop 5).take 5=v.map v32:=by
 rw [psC,List.drop_append_of_le_length (by rw [List.length_map];omega),List.drop_of_length_le (by rw [List.length_map];omega),List.nil_append,List.take_append_of_le_length (by rw [List.length_map];omega),List.take_of_length_le (by rw [List.length_map];omega)]
theorem psC_length(b v:List (BitVec 32))(r:List Byte)(m:Nat)(hb:b.length=5)(hv:v.length=5)(hr:r.length=16):(psC b v r m).length=27:=by simp [psC,hb,hv,hr]
theorem psC_setv(b v x:List (BitVec 32))(r:List Byte)(m:Nat)(hb:b.length=5)(hv:v.length=5):(psC b v r m).take 5++x.map v32++(psC b v r m).drop (5+5)=psC b x r m:=by
 have e:(psC b v r m).drop (5+5)=r.map v8++[.int .i64 (m:Int)]:=by
   rw [psC,List.drop_append,List.drop_of_length_le (by rw [List.length_map];omega),List.nil_append,List.length_map,hb,show 5+5-5=5 from rfl,List.drop_append,List.drop_of_length_le (by rw [List.length_map];omega),List.nil_append,List.length_map,hv,Nat.sub_self,dZe]
 rw [e,psC,List.take_append_of_le_length (by rw [List.length_map];omega),List.take_of_length_le (by rw [List.length_map];omega),psC,List.append_assoc]
theorem psC_many(b v:List (BitVec 32))(r:List Byte)(m:Nat)(hb:b.length=5)(hv:v.length=5)(hr:r.length=16):(psC b v r m)[26]? =some (.int .i64 (m:Int)):=by
 rw [psC,List.getElem?_append_right (by rw [List.length_map];omega),List.getElem?_append_right (by rw [List.length_map,List.length_map];omega),List.getElem?_append_right (by simp only [List.length_map];omega)]
 simp only [List.length_map,hb,hv,hr];rfl
theorem ppart_any(g:Nat)(b v n:List (BitVec 32))(r:List Byte)(m:Nat)(hb:b.length=5)(hv:v.length=5)(hr:r.length=16)(hn:n.length=5)(w0 w:World)(R:List Blk)(hm:Own w0 w (⟨g,279,psC b v r m⟩::R)):
   Calls Tryz.prog 199 #[.pointer (some ⟨g,0,none⟩),P32 n] w fun e w'=>e= .returned (.tuple #[])∧Own w0 w' (⟨g,279,psC b (timL (plsL v n) b) r m⟩::R):=by
 have C1:=hid fun w=>pplus_any v n hv hn w
 have C2:=hid fun w=>ptimes_any (plsL v n) b (plsL_length v n) hb w
 have EB:=hid (psC_by b v r m hb)
 have EV:=hid (psC_v b v r m hb hv)
 have ES:=hid (psC_setv b v (timL (plsL v n) b) r m hb hv)
 have LC:=hid (psC_length b v r m hb hv hr)
 have LT:=hid (timL_length (plsL v n) b)
 have HB:=hid hb
 have HV:=hid hv
 have h1:=Nat.le_of_eq hn
 have h2:=Nat.le_of_eq hn.symm
 generalize timL (plsL v n) b=T at*
 generalize plsL v n=P at*
 generalize psC b v r m=PC at*
 generalize psC b T r m=PD at*
 clear hb hv hr hn
 go_enter Tryz.func199,Tryz.ntmps199
 go_wp2_with (first|(((with_reducible show qBx);refine zH hm ?_);clear hm;intro gx_;intro w hm))
 refine rgE 14 18 ?_
 simp only [zTa]
 repeat (first
     |(apply walk_is rfl rfl rfl;(intro wx hwx;(with_reducible apply gq_ldN (hm.ext hwx));infer_instance;exact rfl;(focus (repeat first|exact .hd|assumption|apply Has.tl);done);(exact EV.out);(exact(by rw [List.length_map];exact HV.out)));(simp only [zPu];rfl))
     |(apply walk_is rfl rfl rfl;(intro wx hwx;(with_reducible apply gq_ldN (hm.ext hwx));infer_instance;exact rfl;(focus (repeat first|exact .hd|assumption|apply Has.tl);done);(exact EB.out);(exact(by rw [List.length_map];exact HB.out)));(simp only [zPu];rfl))
     | (apply walk_is rfl rfl rfl
        · (intro wx hwx;first|((with_reducible show qGl);exact zK (hm.ext hwx))|(go_simp;(try go_bits);first|exact gives_same|exact gives_skip|with_reducible exact gives_call (C1.out wx)|with_reducible exact gives_call (C2.out wx)))
        · (simp only [zPu];rfl))
     | (apply walk_not rfl rfl rfl
        · (simp only [zPu];rfl)))
 intro wz hwz
 simp only [zZi]
 repeat (first|rw [fin_is]|(rw [fin_cons];intro _ _))
 rw [fin_nil]
 try (replace hm:=hm.ext hwz)
 simp only [zPu]
 go_wp2_with (first|((with_reducible apply wq_stA hm);exact rfl;infer_instance;exact rfl;exact rfl;(focus (repeat first|exact .hd|assumption|apply Swap.tl);done);(exact ES.out);(exact(by rw [List.length_map];exact LT.out));(exact(by rw [LC.out];omega));(exact(one_map _));clear hm;intro w hm))
 go_end0
 exact⟨rfl,hm.drop⟩
theorem list5(F:List (BitVec 32))(h:F.length=5):∃a b c d e,F=[a,b,c,d,e]:=by
 match F,h with
 |[a,b,c,d,e],_=>exact⟨a,b,c,d,e,rfl⟩
theorem pnew_any(key:List Byte)(hk:key.length=16)(w0:World):Calls Tryz.prog 190 #[A8 key] w0 fun e w'=>∃g,e= .returned (.pointer (some ⟨g,0,none⟩))∧w0.heap.size≤g∧Row w' g 279 (psC (ofL (clB key 3) 0#32) (zer 5) (zer 16) 0)∧Ext w0 w':=by
 have hm:=Own.start w0
 have C1:=hid fun w=>clamp_any key hk w
 have C2:=hid fun w=>(show Gives Tryz.prog 197 #[A8 (clB key 3), .int .u32 0] w (P32 (ofL (clB key 3) 0#32))from pof_any _ (by rw [clB_length];exact hk) 0#32 w)
 have BD:=hid fun w=>(show(Instr.build 279 #[(0,P32 (ofL (clB key 3) 0#32))]).run Tryz.prog w= .ok (.agg (psC (ofL (clB key 3) 0#32) (zer 5) (zer 16) 0).toArray) w from by
   obtain⟨a,b,c,d,e,he⟩:=list5 (ofL (clB key 3) 0#32) (ofL_length _ _)
   rw [he];kernel_rfl)
 generalize psC (ofL (clB key 3) 0#32) (zer 5) (zer 16) 0=PC at*
 generalize ofL (clB key 3) 0#32=B at*
 generalize clB key 3=K at*
 have h1:=Nat.le_of_eq hk
 have h2:=Nat.le_of_eq hk.symm
 clear hk
 go_enter Tryz.func190,Tryz.ntmps190
 go_wp2_with (first|(go_at_call 198;(with_reducible refine(C1.out _).mono ?_);rintro e_ w ⟨rfl,hx_⟩;replace hm:=hm.ext hx_;clear hx_)|(go_at_call 197;(with_reducible refine(C2.out _).mono ?_);rintro e_ w ⟨rfl,hx_⟩;replace hm:=hm.ext hx_;clear hx_)|((with_reducible apply wq_build1 BD.out);exact rfl;exact rfl)|((with_reducible show qLd);refine zB hm ?_)|(((with_reducible show qBx);refine zH hm ?_);clear hm;(first|(have hx_:=g1;clear hx_;(first|(have hx_:=g2;clear hx_;intro gx_)|intro g2))|intro g1);intro w hm))
 go_ret
 exact⟨g2,rfl,(show w0.heap.size≤(⟨g2,279,PC⟩:Blk).g from hm.base .hd),hm.row .hd,hm.x⟩
theorem pvalue_any(g:Nat)(b v:List (BitVec 32))(r:List Byte)(hb:b.length=5)(hv:v.length=5)(hr:r.length=16)(w0:World)(h:Row w0 g 279 (psC b v r 0)):Gives Tryz.prog 205 #[.pointer (some ⟨g,0,none⟩)] w0 (P32 v):=by
 unfold Gives
 have hm:=Own.start w0
 have HR:=hid fun w (hx:Ext w0 w)=>row_ext h hx
 have EM:=hid (psC_many b v r 0 hb hv hr)
 have EV:=hid (psC_v b v r 0 hb hv)
 have HV:=hid hv
 have h1:=Nat.le_of_eq hv
 have h2:=Nat.le_of_eq hv.symm
 generalize psC b v r 0=PC at*
 clear h hv
 go_enter Tryz.func205,Tryz.ntmps205
 go_wp2_with (first|((with_reducible apply wq_row1 (HR.out _ hm.x));exact rfl;infer_instance;exact rfl;exact EM.out)|((with_reducible apply wq_rowN (HR.out _ hm.x));exact rfl;infer_instance;exact rfl;exact EV.out;exact(by rw [List.length_map];exact HV.out))|((with_reducible show qSt);refine zE hm ?_;clear hm;intro w hm)|(((with_reducible show qAl);refine zG hm ?_);clear hm;intro gx_;intro w hm))
 refine rtO hm rfl rfl ⟨rfl,hm.x⟩
theorem ptag_any(g:Nat)(b v:List (BitVec 32))(r:List Byte)(hb:b.length=5)(hv:v.length=5)(hr:r.length=16)(w0:World)(h:Row w0 g 279 (psC b v r 0)):Gives Tryz.prog 200 #[.pointer (some ⟨g,0,none⟩)] w0 (A8 (lowB v)):=by
 unfold Gives
 have hm:=Own.start w0
 have C1:=hid fun w (hx:Ext w0 w)=>pvalue_any g b v r hb hv hr w (row_ext h hx)
 have C2:=hid fun w=>plow_any v hv w
 have lB:=lowB_length v
 generalize lowB v=F at*
 have h1:=Nat.le_of_eq lB
 have h2:=Nat.le_of_eq lB.symm
 clear h
 go_enter Tryz.func200,Tryz.ntmps200
 go_wp2_with (first|(go_at_call 205;(with_reducible refine(C1.out _ hm.x).mono ?_);rintro e_ w ⟨rfl,hx_⟩;replace hm:=hm.ext hx_;clear hx_)|(go_at_call 206;(with_reducible refine(C2.out _).mono ?_);rintro e_ w ⟨rfl,hx_⟩;replace hm:=hm.ext hx_;clear hx_)|((with_reducible show qSt);refine zE hm ?_;clear hm;intro w hm)|(((with_reducible show qAl);refine zG hm ?_);clear hm;intro gx_;intro w hm))
 refine rtO hm rfl rfl ⟨rfl,hm.x⟩
theorem known12(w:World):Calls Tryz.prog 100 #[.int .i64 12] w fun e w'=>e= .returned (.int .i64 0)∧w=w':=by
 go_enter Tryz.func100,Tryz.ntmps100
 go_wp2
 go_ret
 exact⟨rfl,rfl⟩
theorem shape32(w:World):Calls Tryz.prog 82 #[.int .i64 32] w fun e w'=>e= .returned (.tuple #[.int .i64 8, .bool true, .int .i64 0])∧w=w':=by
 go_enter Tryz.func82,Tryz.ntmps82
 go_wp2
 go_ret3
 exact⟨rfl,rfl⟩
theorem shape24(w:World):Calls Tryz.prog 82 #[.int .i64 24] w fun e w'=>e= .returned (.tuple #[.int .i64 6, .bool false, .int .i64 0])∧w=w':=by
 go_enter Tryz.func82,Tryz.ntmps82
 go_wp2
 go_ret3
 exact⟨rfl,rfl⟩
theorem shape16(w:World):Calls Tryz.prog 82 #[.int .i64 16] w fun e w'=>e= .returned (.tuple #[.int .i64 4, .bool false, .int .i64 0])∧w=w':=by
 go_enter Tryz.func82,Tryz.ntmps82
 go_wp2
 go_ret3
 exact⟨rfl,rfl⟩
def proN(a k b l:BitVec 32):BitVec 64:=(a+k).setWidth 64*(b+l).setWidth 64
theorem product_any(a k b l:BitVec 32)(w:World):Calls Tryz.prog 201 #[v32 a,v32 k,v32 b,v32 l] w fun e w'=>e= .returned (v64 (proN a k b l))∧w=w':=by
 go_enter Tryz.func201,Tryz.ntmps201
 go_wp2
 go_ret
 exact⟨rfl,rfl⟩
theorem anumber_any(g:Nat)(b v:List (BitVec 32))(r:List Byte)(hb:b.length=5)(hv:v.length=5)(hr:r.length=16)(w0:World)(h:Row w0 g 279 (psC b v r 0)):Gives Tryz.prog 192 #[.pointer (some ⟨g,0,none⟩)] w0 (WV (num (lowB v) 0 8) (num (lowB v) 8 8)):=by
 unfold Gives
 have hm:=Own.start w0
 have C1:=hid fun w (hx:Ext w0 w)=>ptag_any g b v r hb hv hr w (row_ext h hx)
 have lB:=lowB_length v
 have L1:=hid fun (w:World)(p:Option Addr)(c:Nat)(hr:RdB w p (lowB v))=>show Gives Tryz.prog 183 #[.slice p 16 c] w (WV (num (lowB v) 0 8) (num (lowB v) 8 8))from by
   have:=load_any (lowB v) p c w hr (by omega);rwa [lB]at this
 generalize lowB v=F at*
 generalize num F 0 8=lo at*
 generalize num F 8 8=hi at*
 have h1:=Nat.le_of_eq lB
 have h2:=Nat.le_of_eq lB.symm
 clear h
 go_enter Tryz.func192,Tryz.ntmps192
 go_wp2_with (first|(go_at_call 200;(with_reducible refine(C1.out _ hm.x).mono ?_);rintro e_ w ⟨rfl,hx_⟩;replace hm:=hm.ext hx_;clear hx_)|(go_at_call 183;(with_reducible refine(L1.out _ _ _ (hm.rdB (g:=g2) (l:=F) (by repeat (first|exact Has.hd|assumption|apply Has.tl)))).mono ?_);rintro e_ w ⟨rfl,hx_⟩;replace hm:=hm.ext hx_;clear hx_)|((with_reducible show qSt);refine zE hm ?_;clear hm;intro w hm)|(((with_reducible show qAl);refine zG hm ?_);clear hm;(first|(have hx_:=g1;clear hx_;(first|(have hx_:=g2;clear hx_;intro gx_)|intro g2))|intro g1);intro w hm))
 refine rtO hm rfl rfl ⟨rfl,hm.x⟩
def xbL(s:List Byte)(i:BitVec 64):List Byte:=part 16 8 (fun j=>nth s j^^^nth (putL i 8) j) (nth s)
theorem xbL_length(s:List Byte)(i:BitVec 64):(xbL s i).length=16:=part_length
theorem xblock_any(g:Nat)(k0 kl:List Byte)(ks:List (List Byte))(s:List Byte)(hs:s.length=16)(i:BitVec 64)(w0:World)(h:AesR w0 g k0 ks kl):Gives Tryz.prog 221 #[.pointer (some ⟨g,0,none⟩),A8 s,v64 i] w0 (A8 (aesE k0 ks kl (xbL s i))):=by
 unfold Gives
 have hm:=Own.start w0
 have C1:=hid fun w (hx:Ext w0 w)=>encrypt_any g k0 kl ks (xbL s i) (xbL_length s i) w (h.ext hx)
 have PL:=hid fun w=>putlong_any' i w
 have XP:Hid (xbL s i=part 16 8 (fun j=>nth s j^^^nth (putL i 8) j) (nth s)):=hid rfl
 have XZ:Hid (s=part 16 0 (fun j=>nth s j^^^nth (putL i 8) j) (nth s)):=hid (part_start hs)
 have lP:(putL i 8).length=8:=putL_length _ _
 have LP:=hid lP
 have lX:=xbL_length s i
 have lE:=aesE_length k0 ks kl (xbL s i)
 generalize aesE k0 ks kl (xbL s i)=E at*
 generalize xbL s i=X at*
 have IX:=fun (j:Nat)(hj:j<8)(w:World)=>run_index_v (P:=Tryz.prog) (T:=40) (e:=5) (f:=v8) (by kernel_rfl) (putL i 8) lP j hj w
 have IX:=hid IX
 generalize putL i 8=P at*
 have h1:=Nat.le_of_eq hs
 have h2:=Nat.le_of_eq hs.symm
 have h3:=Nat.le_of_eq lX
 have h4:=Nat.le_of_eq lX.symm
 have h5:=Nat.le_of_eq lE
 have h6:=Nat.le_of_eq lE.symm
 clear h hs
 go_enter Tryz.func221,Tryz.ntmps221
 go_wp2_with (first|(go_at_call 11;(with_reducible refine(PL.out _).mono ?_);rintro e_ w ⟨rfl,hx_⟩;replace hm:=hm.ext hx_;clear hx_)|((first|((with_reducible show qAl);refine zG hm ?_)|((with_reducible show qBx);refine zH hm ?_));clear hm;(first|(have hx_:=g1;clear hx_;(first|(have hx_:=g2;clear hx_;intro gx_)|intro g2))|intro g1);intro w hm))
 go_loopw [11] (fun i_ wr=>∃k:Nat,k≤8∧i_= .int .i64 k∧Own w0 wr [⟨g2,132,(zer 16).map v8⟩,⟨g1,132,(part 16 k (fun j=>nth s j^^^nth P j) (nth s)).map v8⟩]) (fun i_ _=>8-(intOf i_).toNat)
 case atStart=>exact⟨0,by omega,rfl,by rw [←XZ.out];exact hm⟩
 case round=>
   obtain⟨k,hk,rfl,hm⟩:=hrel
   by_cases hlt:k<8
   · have hd:decide ((k:Int)<8)=true:=decide_eq_true (by omega)
     have hd2:(k:Int)<8:=by omega
     have ix:=fun w=>IX.out k hlt w
     have PK:Hid (setN (part 16 k (fun j=>nth s j^^^nth P j) (nth s)) k (nth (part 16 k (fun j=>nth s j^^^nth P j) (nth s)) k^^^nth P k)=part 16 (k+1) (fun j=>nth s j^^^nth P j) (nth s)):=hid (by
       rw [nth_part_ge (by omega) (Nat.le_refl _)];exact part_set' (by omega) rfl)
     have lV:(part 16 k (fun j=>nth s j^^^nth P j) (nth s)).length=16:=part_length
     generalize part 16 k (fun j=>nth s j^^^nth P j) (nth s)=V at*
     go_wp2_with (first|((with_reducible show qLd);refine zA hm ?_)|((with_reducible show qSt);refine zD hm ?_;clear hm;intro w hm))
     go_roundw
     case rel=>
       rw [PK.out]at hm
       exact⟨k+1,by omega,by go_num,hm⟩
     case measure=>simp [intOf]<;>omega
   · obtain rfl:k=8:=by omega
     have hd:decide (((8:Nat):Int)<8)=false:=decide_eq_false (by omega)
     rw [←XP.out]at hm
     go_wp2_with (first|(go_at_call 67;(with_reducible refine(C1.out _ hm.x).mono ?_);rintro e_ w ⟨rfl,hx_⟩;replace hm:=hm.ext hx_;clear hx_)|((with_reducible show qLd);refine zB hm ?_)|((with_reducible show qSt);refine zE hm ?_;clear hm;intro w hm))
     refine rtO hm rfl rfl ⟨rfl,hm.x⟩
theorem slo_rdZ {w0 w:World}{M R:List Blk}{p:Option Addr}{n c:Nat}{e:TypeId}{l:List Byte}(h:SlO M e 1 (.slice p n c) n (l.map v8))(hm:Own w0 w (M++R)):RdB w p l:=by
 have hl:=h.1
 rw [List.length_map,Nat.mul_one]at hl
 obtain⟨_,_,hv,_,_,h0,hcell⟩:=h.cells hm
 cases hv
 refine⟨fun hp=>h0 (by omega),fun i hi=> ?_⟩
 obtain⟨a,rfl,ha⟩:=hcell i (v8 (l.getD i 0)) (by rw [List.getElem?_map,List.getElem?_eq_getElem hi,List.getD_eq_getElem?_getD,List.getElem?_eq_getElem hi];rfl)
 exact ha
end Go.Proofs.YtneacgpmjlocjaaGreatDoor
