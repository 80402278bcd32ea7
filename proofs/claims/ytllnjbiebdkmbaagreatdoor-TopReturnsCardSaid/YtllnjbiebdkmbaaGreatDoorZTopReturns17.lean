/-
  Texts of the program, walked, and plain ones. Conditions: those written in each theorem.
-/
import Derived.Test.YtllnjbiebdkmbaaGreatDoorZTopReturns0
import Derived.Test.YtllnjbiebdkmbaaGreatDoorZTopReturns15
import Derived.Test.YtllnjbiebdkmbaaGreatDoorZTopReturns16
import Derived.Test.YtllnjbiebdkmbaaGreatDoorZTopReturns8
import Derived.Test.YtllnjbiebdkmbaaGreatDoorZTopReturns4
import Derived.Test.YtllnjbiebdkmbaaGreatDoorZTopReturns11
set_option linter.unusedSimpArgs false
set_option linter.unusedVariables false
set_option maxHeartbeats 16000000
namespace Go.Proofs.YtllnjbiebdkmbaaGreatDoor
open Go Go.RowKit
set_option maxRecDepth 100000
def lowF(l:List (BitVec 32)):List (BitVec 64):=looL (frmL l)
def lowLo(L:List (BitVec 64)):BitVec 64:=(nth L 0|||(nth L 1<<<26))|||(nth L 2<<<52)
def lowHi(L:List (BitVec 64)):BitVec 64:=((nth L 2>>>12)|||(nth L 3<<<14))|||(nth L 4<<<40)
def lowB(l:List (BitVec 32)):List Byte:=putL (lowLo (lowF l)) 8++putL (lowHi (lowF l)) 8
theorem lowB_length(l:List (BitVec 32)):(lowB l).length=16:=by rw [lowB,List.length_append,putL_length,putL_length]
theorem plow_any(l:List (BitVec 32))(hl:l.length=5)(w0:World):Gives Tryz.prog 151 #[P32 l] w0 (A8 (lowB l)):=by
 unfold Gives
 have hm:=Own.start w0
 have C1:=Lib.hid fun w=>pform_any l hl w
 have C2:=Lib.hid fun w=>(show Gives Tryz.prog 153 #[P32 (frmL l)] w (P64 (lowF l))from ploose_any _ (frmL_length l) w)
 have BY:=Lib.hid fun w=>(show Gives Tryz.prog 32 #[WV (lowLo (lowF l)) (lowHi (lowF l))] w (A8 (lowB l))from bytes_any _ _ w)
 have B2:=Lib.hid fun (a b:BitVec 64)(w:World)=>(show(Instr.build 71 #[(0,v64 a),(1,v64 b)]).run Tryz.prog w= .ok (WV a b) w from by kernel_rfl)
 have lB:=lowB_length l
 have lL:(lowF l).length=5:=looL_length _
 have EL:=Lib.hid (show lowLo (lowF l)=(nth (lowF l) 0|||(nth (lowF l) 1<<<26))|||(nth (lowF l) 2<<<52)from rfl)
 have EH:=Lib.hid (show lowHi (lowF l)=((nth (lowF l) 2>>>12)|||(nth (lowF l) 3<<<14))|||(nth (lowF l) 4<<<40)from rfl)
 generalize lowB l=F at*
 rw [EL.out,EH.out]at BY
 generalize lowF l=L at*
 generalize frmL l=M at*
 have h1:=Nat.le_of_eq hl
 have h2:=Nat.le_of_eq hl.symm
 have h3:=Nat.le_of_eq lL
 have h4:=Nat.le_of_eq lL.symm
 have h5:=Nat.le_of_eq lB
 have h6:=Nat.le_of_eq lB.symm
 clear hl
 have b2:=B2.out
 go_enter Tryz.func151,Tryz.ntmps151
 go_wp2_with (first|(go_at_call 154;(with_reducible refine(C1.out _).mono ?_);rintro e_ w ⟨rfl,hx_⟩;replace hm:=hm.ext hx_;clear hx_)|(go_at_call 153;(with_reducible refine(C2.out _).mono ?_);rintro e_ w ⟨rfl,hx_⟩;replace hm:=hm.ext hx_;clear hx_)|(go_at_call 32;(with_reducible refine(BY.out _).mono ?_);rintro e_ w ⟨rfl,hx_⟩;replace hm:=hm.ext hx_;clear hx_)|((with_reducible show qLd);first|((with_reducible apply wq_ldv hm);exact rfl;infer_instance;exact rfl;(focus (repeat first|exact .hd|assumption|apply Has.tl);done);(focus (first|omega|(simp;omega)|(refine ltB ?_;first|omega|(simp;done)|(simp;omega)))))|((with_reducible apply wq_ldW hm);exact rfl;infer_instance;exact rfl;(focus (repeat first|exact .hd|assumption|apply Has.tl);done);(focus (first|rfl|omega|(simp;done)|(simp;omega)))))|((((with_reducible show qSt);first|((with_reducible apply wq_stW hm);exact rfl;infer_instance;exact rfl;exact rfl;(focus (repeat first|exact .hd|assumption|apply Swap.tl);done);(focus (first|rfl|omega|(simp;done)|(simp;omega)));(focus (first|rfl|omega|(simp;done)|(simp;omega)));(focus (first|exact one_map _|(simp [one8,one32,one64];done))))));clear hm;intro w hm)|((first|((with_reducible show qAl);first|((with_reducible apply wq_new hm);exact rfl;infer_instance))|((with_reducible show qBx);first|((with_reducible apply wq_boxN hm);exact rfl;exact rfl)));clear hm;intro gx_;intro w hm))
 refine rtO hm rfl rfl (hR:=⟨rfl,hm.x⟩)
def tmX(A B:List (BitVec 64))(i j:Nat):BitVec 64:=if 5≤i+j then(nth A i*nth B j)*5#64 else nth A i*nth B j
def tmJ(A B V:List (BitVec 64))(i:Nat):Nat→List (BitVec 64)
 |0=>V
 |j+1=>setN (tmJ A B V i j) ((i+j)%5) (nth (tmJ A B V i j) ((i+j)%5)+tmX A B i j)
def tmI(A B:List (BitVec 64)):Nat→List (BitVec 64)
 |0=>zer 5
 |i+1=>tmJ A B (tmI A B i) i 5
theorem tmJ_length(A B V:List (BitVec 64))(i j:Nat):(tmJ A B V i j).length=V.length:=by
 induction j with
 |zero=>rfl
 |succ j ih=>rw [tmJ,setN_length,ih]
theorem tmI_length(A B:List (BitVec 64))(i:Nat):(tmI A B i).length=5:=by
 induction i with
 |zero=>exact zer_length
 |succ i ih=>rw [tmI,tmJ_length,ih]
def Low26(l:List (BitVec 64)):Prop:=l.length=5∧∀i,(nth l i).toNat<67108864
theorem tmX_lt(A B:List (BitVec 64))(hA:Low26 A)(hB:Low26 B)(i j:Nat):(tmX A B i j).toNat<36028797018963968:=by
 have a:=hA.2 i
 have b:=hB.2 j
 have m:(nth A i).toNat*(nth B j).toNat≤67108863*67108863:=Nat.mul_le_mul (by omega) (by omega)
 have m1:(nth A i*nth B j).toNat=(nth A i).toNat*(nth B j).toNat:=by rw [BitVec.toNat_mul,Nat.mod_eq_of_lt (by omega)]
 rw [tmX]
 split
 · rw [BitVec.toNat_mul,m1,show(5#64:BitVec 64).toNat=5 from rfl,Nat.mod_eq_of_lt (by omega)];omega
 · rw [m1];omega
theorem tmJ_lt(A B V:List (BitVec 64))(hA:Low26 A)(hB:Low26 B)(n i j:Nat)(hn:n+j≤25)(h:∀k,(nth V k).toNat≤n*36028797018963968):∀k,(nth (tmJ A B V i j) k).toNat≤(n+j)*36028797018963968:=by
 induction j with
 |zero=>exact h
 | succ j ih=>
   intro k
   have hj:=ih (by omega)
   have x:=tmX_lt A B hA hB i j
   have y:=hj ((i+j)%5)
   rw [tmJ]
   by_cases hk:k<(tmJ A B V i j).length
   · rw [nth_set hk]
     split
     · rw [toNat_ad _ _ (by omega)];omega
     · exact Nat.le_trans (hj k) (Nat.mul_le_mul_right _ (by omega))
   · rw [nth_ge (by rw [setN_length];omega)];exact Nat.zero_le _
theorem tmI_lt(A B:List (BitVec 64))(hA:Low26 A)(hB:Low26 B)(i:Nat)(hi:i≤5):∀k,(nth (tmI A B i) k).toNat≤(5*i)*36028797018963968:=by
 induction i with
 | zero=>
   intro k
   rw [tmI]
   by_cases hk:k<5
   · rw [zer,nth_tab hk];exact Nat.zero_le _
   · rw [nth_ge (by rw [zer_length];omega)];exact Nat.zero_le _
 | succ i ih=>
   have:=tmJ_lt A B (tmI A B i) hA hB (5*i) i 5 (by omega) (ih (by omega))
   rw [tmI,show 5*(i+1)=5*i+5 from by omega];exact this
theorem tmI_low(A B:List (BitVec 64))(hA:Low26 A)(hB:Low26 B):Low60 (tmI A B 5):=⟨tmI_length A B 5,fun i=>by have:=tmI_lt A B hA hB 5 (by omega) i;omega⟩
theorem itL_26(l:List (BitVec 64))(h:Low60 l):Low26 (itL l 3):=by
 obtain⟨c1,c2,c3,c4,c5,a1,a2,a3,a4,a5,b0,b1,b2,b3,b4⟩:=car_vals l h
 have w0:=h.2 0
 have w1:=h.2 1
 have w2:=h.2 2
 have w3:=h.2 3
 have w4:=h.2 4
 have L1:(carL l).length=5:=by rw [carL_length,h.1]
 have p0:(nth (carL l) 0).toNat<274877906944:=by omega
 have p1:(nth (carL l) 1).toNat<67108864∧(nth (carL l) 2).toNat<67108864∧(nth (carL l) 3).toNat<67108864∧(nth (carL l) 4).toNat<67108864:=by omega
 clear a1 a2 a3 a4 a5 b0 b1 b2 b3 b4 w0 w1 w2 w3 w4
 have h1:Low60 (carL l):=low_of _ L1 (by omega)
 obtain⟨d1,d2,d3,d4,d5,a1,a2,a3,a4,a5,b0,b1,b2,b3,b4⟩:=car_vals (carL l) h1
 have L2:(carL (carL l)).length=5:=by rw [carL_length,L1]
 have q0:(nth (carL (carL l)) 0).toNat≤67108868:=by omega
 have q1:(nth (carL (carL l)) 1).toNat<67108864∧(nth (carL (carL l)) 2).toNat<67108864∧(nth (carL (carL l)) 3).toNat<67108864∧(nth (carL (carL l)) 4).toNat<67108864:=by omega
 clear a1 a2 a3 a4 a5 b0 b1 b2 b3 b4 p0 p1
 have h2:Low60 (carL (carL l)):=low_of _ L2 (by omega)
 obtain⟨e1,e2,e3,e4,e5,a1,a2,a3,a4,a5,b0,b1,b2,b3,b4⟩:=car_vals (carL (carL l)) h2
 have L3:(carL (carL (carL l))).length=5:=by rw [carL_length,L2]
 have r0:(nth (carL (carL (carL l))) 0).toNat<67108864:=by omega
 have r1:(nth (carL (carL (carL l))) 1).toNat<67108864∧(nth (carL (carL (carL l))) 2).toNat<67108864∧(nth (carL (carL (carL l))) 3).toNat<67108864∧(nth (carL (carL (carL l))) 4).toNat<67108864:=by omega
 clear a1 a2 a3 a4 a5 b0 b1 b2 b3 b4 q0 q1
 refine⟨L3,fun i=> ?_⟩
 show(nth (carL (carL (carL l))) i).toNat<67108864
 by_cases hi:i<5
 · rcases (show i=0∨i=1∨i=2∨i=3∨i=4 by omega)with rfl|rfl|rfl|rfl|rfl<;>omega
 · rw [nth_ge (by omega)];decide
theorem redL_26(l:List (BitVec 64))(h:Low26 l):Low26 (redL l):=by
 rw [redL]
 split
 · rename_i hc
   refine⟨by rw [setN_length,zer_length],fun i=> ?_⟩
   by_cases hi:i<5
   · rw [nth_set (by rw [zer_length];exact hi)]
     split
     · have:=h.2 0
       have hc2:=hc.2
       rw [BitVec.toNat_sub_of_le (by rw [BitVec.le_def];show 67108859≤_;omega)]
       show _-67108859<67108864
       omega
     · rw [zer,nth_tab hi];decide
   · rw [nth_ge (by rw [setN_length,zer_length];omega)];decide
 · exact h
theorem frmL_26(l:List (BitVec 32)):Low26 (lowF l):=⟨looL_length _,fun i=>by
 have h:=(redL_26 _ (itL_26 _ (looL_low l))).2 i
 by_cases hi:i<5
 · rw [lowF,looL,nth_tab hi,frmL,tidL,nth_tab hi,BitVec.toNat_setWidth,BitVec.toNat_setWidth,Nat.mod_eq_of_lt (Nat.lt_of_le_of_lt (Nat.mod_le _ _) (by omega))]
   exact Nat.lt_of_le_of_lt (Nat.mod_le _ _) h
 · rw [nth_ge (by rw [lowF,looL_length];omega)];decide⟩
def timL(a b:List (BitVec 32)):List (BitVec 32):=tidL (tmI (lowF a) (lowF b) 5)
theorem timL_length(a b:List (BitVec 32)):(timL a b).length=5:=tidL_length _
theorem ptimes_any(a b:List (BitVec 32))(ha:a.length=5)(hb:b.length=5)(w0:World):Gives Tryz.prog 149 #[P32 a,P32 b] w0 (P32 (timL a b)):=by
 unfold Gives
 have hm:=Own.start w0
 have F1:=Lib.hid fun w=>pform_any a ha w
 have F2:=Lib.hid fun w=>pform_any b hb w
 have O1:=Lib.hid fun w=>(show Gives Tryz.prog 153 #[P32 (frmL a)] w (P64 (lowF a))from ploose_any _ (frmL_length a) w)
 have O2:=Lib.hid fun w=>(show Gives Tryz.prog 153 #[P32 (frmL b)] w (P64 (lowF b))from ploose_any _ (frmL_length b) w)
 have TD:=Lib.hid fun w=>(show Gives Tryz.prog 147 #[P64 (tmI (lowF a) (lowF b) 5)] w (P32 (timL a b))from tidy_any _ (tmI_low _ _ (frmL_26 a) (frmL_26 b)) w)
 have lA:(lowF a).length=5:=looL_length _
 have lB:(lowF b).length=5:=looL_length _
 have lF:=timL_length a b
 generalize timL a b=F at*
 generalize lowF a=A at*
 generalize lowF b=B at*
 generalize frmL a=Ma at*
 generalize frmL b=Mb at*
 have h1:=Nat.le_of_eq ha
 have h2:=Nat.le_of_eq ha.symm
 have h3:=Nat.le_of_eq hb
 have h4:=Nat.le_of_eq hb.symm
 have h5:=Nat.le_of_eq lA
 have h6:=Nat.le_of_eq lA.symm
 have h7:=Nat.le_of_eq lB
 have h8:=Nat.le_of_eq lB.symm
 have h9:=Nat.le_of_eq lF
 have h10:=Nat.le_of_eq lF.symm
 have LI:=Lib.hid (tmI_length A B)
 have I0:Hid (tmI A B 0=zer 5):=Lib.hid rfl
 clear ha hb
 go_enter Tryz.func149,Tryz.ntmps149
 go_wp2_with (first|((first|((with_reducible show qAl);first|((with_reducible apply wq_new hm);exact rfl;infer_instance))|((with_reducible show qBx);first|((with_reducible apply wq_boxN hm);exact rfl;exact rfl)));clear hm;(first|(have hx_:=g1;clear hx_;(first|(have hx_:=g2;clear hx_;(first|(have hx_:=g3;clear hx_;(first|(have hx_:=g4;clear hx_;intro gx_)|intro g4))|intro g3))|intro g2))|intro g1);intro w hm))
 refine pregion 10 (K2 _ _ 237 ((zer (n:=64) 5).map v64) (A.map v64) (B.map v64)) [6,7,8,9] 49 (by kernel_rfl) (by kernel_rfl) rfl (⟨none,none,none,none,rfl,TwoV.start (hm.ext (drew_ext _))⟩) ?_
 simp only [tSC,List.take_zero,dSC,List.drop_zero,List.map_cons,List.map_nil]
 repeat (first
     |(apply pwalk_mark (T:=[]) 0 [] rfl rfl rfl rfl rfl;(intro vs_ wx hJ_ hn_ hD_;simp only [pwithS];obtain⟨a_,b_,c_,d_,rfl,hT_⟩:=hJ_;obtain rfl:a_=none:=(by simpa using hn_);have hm:=hT_.oa;refine⟨rfl, ?_⟩;(with_reducible apply wq_new hm);exact rfl;infer_instance;clear hm;intro g_ w_ hm;exact mark_end rfl (hT_.j0 hm)))
     |(apply pwalk_mark (T:=[]) 1 [] rfl rfl rfl rfl rfl;(intro vs_ wx hJ_ hn_ hD_;simp only [pwithS];obtain⟨a_,b_,c_,d_,rfl,hT_⟩:=hJ_;obtain rfl:b_=none:=(by simpa using hn_);have hm:=hT_.ob;refine⟨rfl, ?_⟩;(with_reducible apply wq_new hm);exact rfl;infer_instance;clear hm;intro g_ w_ hm;exact mark_end rfl (hT_.j1 hm)))
     |(apply pwalk_mark (T:=[(5,PMk 0)]) 2 [] rfl rfl rfl rfl rfl;(intro vs_ wx hJ_ hn_ hD_;simp only [pwithS];obtain⟨a_,b_,c_,d_,rfl,hT_⟩:=hJ_;obtain rfl:c_=none:=(by simpa using hn_);intro x_ hx_;obtain rfl:a_=some x_:=(by simpa [PMk]using hx_);obtain⟨g_,rfl,hm⟩:=hT_.sa;refine⟨rfl, ?_⟩;(with_reducible apply wq_stW hm);exact rfl;infer_instance;exact rfl;exact rfl;(focus (repeat first|exact .hd|assumption|apply Swap.tl);done);(focus (first|rfl|omega|(simp;done)|(simp;omega)));(focus (first|rfl|omega|(simp;done)|(simp;omega)));(focus (first|exact one_map _|(simp [one8,one32,one64];done)));clear hm;intro w_ hm;exact mark_end rfl (fun u_=>hT_.j2 hm)))
     |(apply pwalk_mark (T:=[(6,PMk 1)]) 3 [] rfl rfl rfl rfl rfl;(intro vs_ wx hJ_ hn_ hD_;simp only [pwithS];obtain⟨a_,b_,c_,d_,rfl,hT_⟩:=hJ_;obtain rfl:d_=none:=(by simpa using hn_);intro x_ hx_;obtain rfl:b_=some x_:=(by simpa [PMk]using hx_);obtain⟨g_,rfl,hm⟩:=hT_.sb;refine⟨rfl, ?_⟩;(with_reducible apply wq_stW hm);exact rfl;infer_instance;exact rfl;exact rfl;(focus (repeat first|exact .hd|assumption|apply Swap.tl);done);(focus (first|rfl|omega|(simp;done)|(simp;omega)));(focus (first|rfl|omega|(simp;done)|(simp;omega)));(focus (first|exact one_map _|(simp [one8,one32,one64];done)));clear hm;intro w_ hm;exact mark_end rfl (fun u_=>hT_.j3 hm)))
     | (apply pwalk_is rfl rfl rfl rfl
        · (intro vs_ wx hJ_;obtain⟨a_,b_,c_,d_,rfl,hT_⟩:=hJ_;have hm:=hT_.low;first|((with_reducible show gives _ _ _ (Sem.run _ (execOp _ (Oper.mk _ (Op.load _ _) _ _ _ _)) _));first|((with_reducible apply gq_ldv hm);infer_instance;exact rfl;(focus (repeat first|exact .hd|assumption|apply Has.tl);done);(focus (first|omega|(simp;omega)|(refine ltB ?_;first|omega|(simp;done)|(simp;omega)))))|((with_reducible apply gq_ldW hm);infer_instance;exact rfl;(focus (repeat first|exact .hd|assumption|apply Has.tl);done);(focus (first|rfl|omega|(simp;done)|(simp;omega))))|((with_reducible apply gq_ld1 hm);infer_instance;exact rfl;(focus (repeat first|exact .hd|assumption|apply Has.tl);done);exact rfl))|(go_simp;(try go_bits);first|exact gives_same|exact gives_skip|with_reducible exact gives_call (F1.out wx)|with_reducible exact gives_call (F2.out wx)|with_reducible exact gives_call (O1.out wx)|with_reducible exact gives_call (O2.out wx)))
        · (simp only [Act.put,sIB,sCS,sCZ];rfl)))
 intro vs_ wz hJ_ hl_ hall_
 simp only [zCC,zNR]
 repeat rw [pfin_is]
 rw [pfin_cons];intro x5 hx5
 repeat rw [pfin_is]
 rw [pfin_cons];intro x6 hx6
 repeat rw [pfin_is]
 rw [pfin_cons];intro y5 hy5
 repeat rw [pfin_is]
 rw [pfin_cons];intro y6 hy6
 repeat rw [pfin_is]
 rw [pfin_nil]
 simp only [Act.put,sIB,sCS,sCZ]
 obtain⟨a_,b_,c_,d_,rfl,hT_⟩:=hJ_
 obtain⟨p_,q_,r_,s_,rfl,rfl,rfl,rfl⟩:=some4 hall_
 clear hm
 obtain⟨g5_,g6_,rfl,rfl,hm⟩:=hT_.fin
 obtain rfl:=pmk0 hx5
 obtain rfl:=pmk1 hx6
 clear hT_ hl_ hall_ hx5 hx6 hy5 hy6 y5 y6
 go_wp2_with (first|((first|((with_reducible show qAl);first|((with_reducible apply wq_new hm);exact rfl;infer_instance)));clear hm;(first|(have hx_:=g1;clear hx_;(first|(have hx_:=g2;clear hx_;(first|(have hx_:=g3;clear hx_;(first|(have hx_:=g4;clear hx_;intro gx_)|intro g4))|intro g3))|intro g2))|intro g1);intro w hm))
 go_loopw [17] (fun i wr=>∃i_:Nat,i_≤5∧i= .int .i64 i_∧Own w0 wr [⟨g4,237,(tmI A B i_).map v64⟩,⟨g5_,237,A.map v64⟩,⟨g6_,237,B.map v64⟩,⟨g3,228,(zer (n:=32) 5).map v32⟩,⟨g2,228,b.map v32⟩,⟨g1,228,a.map v32⟩]) (fun i _=>5-(intOf i).toNat)
 case atStart=>exact⟨0,by omega,rfl,by rw [I0.out];exact hm⟩
 case round=>
   obtain⟨i,hi,rfl,hm⟩:=hrel
   by_cases hli:i<5
   · have hd : decide ((i:Int)<5)=true:=decide_eq_true (by omega)
     have hd2:(i:Int)<5:=by omega
     have EI:=Lib.hid (show tmI A B (i+1)=tmJ A B (tmI A B i) i 5 from rfl)
     have lV:=LI.out i
     generalize tmI A B i=V at*
     have LJ:=Lib.hid fun j=>(show(tmJ A B V i j).length=5 from by rw [tmJ_length];exact lV)
     have J0:Hid (tmJ A B V i 0=V):=Lib.hid rfl
     go_wp2_with fail
     go_loopw [20] (fun i_ wr=>∃j:Nat,j≤5∧i_= .int .i64 j∧Own w0 wr [⟨g4,237,(tmJ A B V i j).map v64⟩,⟨g5_,237,A.map v64⟩,⟨g6_,237,B.map v64⟩,⟨g3,228,(zer (n:=32) 5).map v32⟩,⟨g2,228,b.map v32⟩,⟨g1,228,a.map v32⟩]) (fun i_ _=>5-(intOf i_).toNat)
     case atStart=>exact⟨0,by omega,rfl,by rw [J0.out];exact hm⟩
     case round=>
       obtain⟨j,hj,rfl,hm⟩:=hrel
       by_cases hlj:j<5
       · have hd3 :decide ((j:Int)<5)=true:=decide_eq_true (by omega)
         have hd4:(j:Int)<5:=by omega
         obtain⟨q,hq⟩:∃q,(i+j)%5=q:=⟨_,rfl⟩
         have mq:((i:Int)+(j:Int)).tmod 5=(q:Int):=by rw [Int.tmod_eq_emod_of_nonneg (by omega)];omega
         have q5:q<5:=by omega
         have q6:(q:Int)<5:=by omega
         have EJ:=Lib.hid (show tmJ A B V i (j+1)=setN (tmJ A B V i j) q (nth (tmJ A B V i j) q+tmX A B i j)from by rw [tmJ,hq])
         have lJ:=LJ.out j
         clear hq
         generalize tmJ A B V i j=W at*
         by_cases h5:5≤i+j
         · have d1:decide ((5:Int)≤(i:Int)+(j:Int))=true:=decide_eq_true (by omega)
           have d2:(5:Int)≤(i:Int)+(j:Int):=by omega
           have d3:decide ((i:Int)+(j:Int)≥5)=true:=decide_eq_true (by omega)
           have EX:Hid (tmX A B i j=(nth A i*nth B j)*5#64):=Lib.hid (if_pos h5)
           go_wp2_with fail
           refine region_at 8 (fun w'=>Ext _ w') 49 (by kernel_rfl) (by kernel_rfl) rfl (fun _ _ h k=>h.trans k) (drew_ext _) ?_
           simp only [tSC,List.take_zero,dSC,List.drop_zero,List.map_cons,List.map_nil]
           repeat (first
               | (apply walk_is rfl rfl rfl
                  · (intro wx hwx;first|((with_reducible show gives _ _ _ (Sem.run _ (execOp _ (Oper.mk _ (Op.load _ _) _ _ _ _)) _));first|((with_reducible apply gq_ldv (hm.ext hwx));infer_instance;exact rfl;(focus (repeat first|exact .hd|assumption|apply Has.tl);done);(focus (first|omega|(simp;omega)|(refine ltB ?_;first|omega|(simp;done)|(simp;omega))))))|(go_simp;(try go_bits);first|exact gives_same|exact gives_skip))
                  · (simp only [Act.put,sIB,sCS,sCZ];rfl))
               | (apply walk_not rfl rfl rfl
                  · (simp only [Act.put,sIB,sCS,sCZ];rfl)))
           intro wz hwz
           simp only [zCC,zNR]
           repeat (first|rw [fin_is]|(rw [fin_cons];intro _ _))
           rw [fin_nil]
           try (replace hm:=hm.ext hwz)
           simp only [Act.put,sIB,sCS,sCZ]
           go_wp2_with (first|((with_reducible show qLd);first|((with_reducible apply wq_ldv hm);exact rfl;infer_instance;exact rfl;(focus (repeat first|exact .hd|assumption|apply Has.tl);done);(focus (first|omega|(simp;omega)|(refine ltB ?_;first|omega|(simp;done)|(simp;omega))))))|((((with_reducible show qSt);first|((with_reducible apply wq_stv hm);exact rfl;infer_instance;exact rfl;(focus (repeat first|exact .hd|assumption|apply Swap.tl);done);infer_instance;exact rfl;(focus (first|omega|(simp;omega)|(refine ltB ?_;first|omega|(simp;done)|(simp;omega)))))));clear hm;intro w hm))
           go_roundw
           case rel=>exact⟨j+1,by omega,by go_num,by rw [EJ.out,EX.out];exact hm⟩
           case measure=>simp [intOf]<;>omega
         · have d1:decide ((5:Int)≤(i:Int)+(j:Int))=false:=decide_eq_false (by omega)
           have d2:¬(5:Int)≤(i:Int)+(j:Int):=by omega
           have d3:decide ((i:Int)+(j:Int)≥5)=false:=decide_eq_false (by omega)
           have EX:Hid (tmX A B i j=nth A i*nth B j):=Lib.hid (if_neg h5)
           go_wp2_with fail
           refine region_at 8 (fun w'=>Ext _ w') 49 (by kernel_rfl) (by kernel_rfl) rfl (fun _ _ h k=>h.trans k) (drew_ext _) ?_
           simp only [tSC,List.take_zero,dSC,List.drop_zero,List.map_cons,List.map_nil]
           repeat (first
               | (apply walk_is rfl rfl rfl
                  · (intro wx hwx;first|((with_reducible show gives _ _ _ (Sem.run _ (execOp _ (Oper.mk _ (Op.load _ _) _ _ _ _)) _));first|((with_reducible apply gq_ldv (hm.ext hwx));infer_instance;exact rfl;(focus (repeat first|exact .hd|assumption|apply Has.tl);done);(focus (first|omega|(simp;omega)|(refine ltB ?_;first|omega|(simp;done)|(simp;omega))))))|(go_simp;(try go_bits);first|exact gives_same|exact gives_skip))
                  · (simp only [Act.put,sIB,sCS,sCZ];rfl))
               | (apply walk_not rfl rfl rfl
                  · (simp only [Act.put,sIB,sCS,sCZ];rfl)))
           intro wz hwz
           simp only [zCC,zNR]
           repeat (first|rw [fin_is]|(rw [fin_cons];intro _ _))
           rw [fin_nil]
           try (replace hm:=hm.ext hwz)
           simp only [Act.put,sIB,sCS,sCZ]
           go_wp2_with (first|((with_reducible show qLd);first|((with_reducible apply wq_ldv hm);exact rfl;infer_instance;exact rfl;(focus (repeat first|exact .hd|assumption|apply Has.tl);done);(focus (first|omega|(simp;omega)|(refine ltB ?_;first|omega|(simp;done)|(simp;omega))))))|((((with_reducible show qSt);first|((with_reducible apply wq_stv hm);exact rfl;infer_instance;exact rfl;(focus (repeat first|exact .hd|assumption|apply Swap.tl);done);infer_instance;exact rfl;(focus (first|omega|(simp;omega)|(refine ltB ?_;first|omega|(simp;done)|(simp;omega)))))));clear hm;intro w hm))
           go_roundw
           case rel=>exact⟨j+1,by omega,by go_num,by rw [EJ.out,EX.out];exact hm⟩
           case measure=>simp [intOf]<;>omega
       · obtain rfl:j=5:=by omega
         have hd3:decide (((5:Nat):Int)<5)=false:=decide_eq_false (by omega)
         rw [←EI.out]at hm
         go_wp2_with fail
         go_roundw
         case rel=>exact⟨i+1,by omega,by go_num,hm⟩
         case measure=>simp [intOf]<;>omega
   · obtain rfl:i=5:=by omega
     have hd:decide (((5:Nat):Int)<5)=false:=decide_eq_false (by omega)
     have lI:=LI.out 5
     have li1:=Nat.le_of_eq lI
     have li2:=Nat.le_of_eq lI.symm
     generalize tmI A B 5=V at*
     go_wp2_with (first|(go_at_call 147;(with_reducible refine(TD.out _).mono ?_);rintro e_ w ⟨rfl,hx_⟩;replace hm:=hm.ext hx_;clear hx_)|((with_reducible show qLd);first|((with_reducible apply wq_ldW hm);exact rfl;infer_instance;exact rfl;(focus (repeat first|exact .hd|assumption|apply Has.tl);done);(focus (first|rfl|omega|(simp;done)|(simp;omega)))))|((((with_reducible show qSt);first|((with_reducible apply wq_stW hm);exact rfl;infer_instance;exact rfl;exact rfl;(focus (repeat first|exact .hd|assumption|apply Swap.tl);done);(focus (first|rfl|omega|(simp;done)|(simp;omega)));(focus (first|rfl|omega|(simp;done)|(simp;omega)));(focus (first|exact one_map _|(simp [one8,one32,one64];done))))));clear hm;intro w hm))
     refine rtO hm rfl rfl (hR:=⟨rfl,hm.x⟩)
abbrev W2:=BitVec 64×BitVec 64
abbrev WP(x:W2):Value:=WV x.1 x.2
def upW(x:W2):W2:=((x.1<<<1)^^^(x.2>>>63),((x.2<<<1)^^^(x.1>>>63))^^^((x.2>>>63)*13979173243358019584#64))
def downW(x:W2):W2:=((x.1>>>1)^^^(x.2<<<63),(x.2>>>1)^^^((x.1&&&1#64)*16212958658533785600#64))
def plusW(x y:W2)(f:BitVec 64):W2:=(x.1^^^(f*y.1),x.2^^^(f*y.2))
def bitW(x:W2)(i:Nat):BitVec 64:=if i<64 then(x.1>>>i)&&&1#64 else(x.2>>>(i-64))&&&1#64
@[local go_sem] theorem build_w2 (a b : BitVec 64) (w : World) : (Instr.build 71 #[(0, v64 a), (1, v64 b)]).run Tryz.prog w = .ok (WV a b) w := by kernel_rfl
theorem riup_any(x:W2)(w0:World):Gives Tryz.prog 176 #[WP x] w0 (WP (upW x)):=by
 unfold Gives
 have hm:=Own.start w0
 obtain⟨lo,hi⟩:=x
 have E:=Lib.hid (show upW (lo,hi)=((lo<<<1)^^^(hi>>>63),((hi<<<1)^^^(lo>>>63))^^^((hi>>>63)*13979173243358019584#64))from rfl)
 go_enter Tryz.func176,Tryz.ntmps176
 go_wp2_with (first|((with_reducible show qLd);first|((with_reducible apply wq_ld1 hm);exact rfl;infer_instance;exact rfl;(focus (repeat first|exact .hd|assumption|apply Has.tl);done);exact rfl))|((((with_reducible show qSt);first|((with_reducible apply wq_stW hm);exact rfl;infer_instance;exact rfl;exact rfl;(focus (repeat first|exact .hd|assumption|apply Swap.tl);done);(focus (first|rfl|omega|(simp;done)|(simp;omega)));(focus (first|rfl|omega|(simp;done)|(simp;omega)));(focus (first|exact one_map _|(simp [one8,one32,one64];done))))));clear hm;intro w hm)|((first|((with_reducible show qAl);first|((with_reducible apply wq_new hm);exact rfl;infer_instance))|((with_reducible show qBx);first|((with_reducible apply wq_boxN hm);exact rfl;exact rfl)));clear hm;intro gx_;intro w hm))
 refine rtO hm rfl rfl (hR:=⟨rfl,hm.x⟩)
theorem ridown_any(x:W2)(w0:World):Gives Tryz.prog 177 #[WP x] w0 (WP (downW x)):=by
 unfold Gives
 have hm:=Own.start w0
 obtain⟨lo,hi⟩:=x
 go_enter Tryz.func177,Tryz.ntmps177
 go_wp2_with (first|((with_reducible show qLd);first|((with_reducible apply wq_ld1 hm);exact rfl;infer_instance;exact rfl;(focus (repeat first|exact .hd|assumption|apply Has.tl);done);exact rfl))|((((with_reducible show qSt);first|((with_reducible apply wq_stW hm);exact rfl;infer_instance;exact rfl;exact rfl;(focus (repeat first|exact .hd|assumption|apply Swap.tl);done);(focus (first|rfl|omega|(simp;done)|(simp;omega)));(focus (first|rfl|omega|(simp;done)|(simp;omega)));(focus (first|exact one_map _|(simp [one8,one32,one64];done))))));clear hm;intro w hm)|((first|((with_reducible show qAl);first|((with_reducible apply wq_new hm);exact rfl;infer_instance))|((with_reducible show qBx);first|((with_reducible apply wq_boxN hm);exact rfl;exact rfl)));clear hm;intro gx_;intro w hm))
 refine rtO hm rfl rfl (hR:=⟨rfl,hm.x⟩)
theorem riplus_any(x y:W2)(f:BitVec 64)(w0:World):Gives Tryz.prog 175 #[WP x,WP y,v64 f] w0 (WP (plusW x y f)):=by
 unfold Gives
 have hm:=Own.start w0
 obtain⟨lo,hi⟩:=x
 obtain⟨lp,hp⟩:=y
 go_enter Tryz.func175,Tryz.ntmps175
 go_wp2_with (first|((with_reducible show qLd);first|((with_reducible apply wq_ld1 hm);exact rfl;infer_instance;exact rfl;(focus (repeat first|exact .hd|assumption|apply Has.tl);done);exact rfl))|((((with_reducible show qSt);first|((with_reducible apply wq_stW hm);exact rfl;infer_instance;exact rfl;exact rfl;(focus (repeat first|exact .hd|assumption|apply Swap.tl);done);(focus (first|rfl|omega|(simp;done)|(simp;omega)));(focus (first|rfl|omega|(simp;done)|(simp;omega)));(focus (first|exact one_map _|(simp [one8,one32,one64];done))))));clear hm;intro w hm)|((first|((with_reducible show qAl);first|((with_reducible apply wq_new hm);exact rfl;infer_instance))|((with_reducible show qBx);first|((with_reducible apply wq_boxN hm);exact rfl;exact rfl)));clear hm;intro gx_;intro w hm))
 refine rtO hm rfl rfl (hR:=⟨rfl,hm.x⟩)
theorem ribit_any(x:W2)(i:Nat)(h:i<128)(w0:World):Gives Tryz.prog 178 #[WP x, .int .i64 (i:Int)] w0 (v64 (bitW x i)):=by
 unfold Gives
 have hm:=Own.start w0
 obtain⟨lo,hi⟩:=x
 by_cases h6:i<64
 · have e:Hid (bitW (lo,hi) i=(lo>>>i)&&&1#64):=Lib.hid (if_pos h6)
   have d1:decide ((i:Int)<64)=true:=decide_eq_true (by omega)
   have d2:(i:Int)<64:=by omega
   go_enter Tryz.func178,Tryz.ntmps178
   go_wp2_with (first|((with_reducible show qLd);first|((with_reducible apply wq_ld1 hm);exact rfl;infer_instance;exact rfl;(focus (repeat first|exact .hd|assumption|apply Has.tl);done);exact rfl))|((first|((with_reducible show qBx);first|((with_reducible apply wq_boxN hm);exact rfl;exact rfl)));clear hm;intro gx_;intro w hm))
   go_ret
   exact⟨by rw [e.out];rfl,hm.x⟩
 · obtain⟨j,rfl⟩:∃j,i=64+j:=⟨i-64,by omega⟩
   have e:Hid (bitW (lo,hi) (64+j)=(hi>>>j)&&&1#64):=Lib.hid (by rw [bitW,if_neg h6,show 64+j-64=j from by omega])
   have d1:decide (((64+j:Nat):Int)<64)=false:=decide_eq_false (by omega)
   have d2:¬((64+j:Nat):Int)<64:=by omega
   have d3:((64+j:Nat):Int)-64=(j:Int):=by omega
   go_enter Tryz.func178,Tryz.ntmps178
   go_wp2_with (first|((with_reducible show qLd);first|((with_reducible apply wq_ld1 hm);exact rfl;infer_instance;exact rfl;(focus (repeat first|exact .hd|assumption|apply Has.tl);done);exact rfl))|((first|((with_reducible show qBx);first|((with_reducible apply wq_boxN hm);exact rfl;exact rfl)));clear hm;intro gx_;intro w hm))
   go_ret
   exact⟨by rw [e.out];rfl,hm.x⟩
def dotF(x y:W2):Nat→W2
 |0=>(0#64,0#64)
 |i+1=>downW (plusW (dotF x y i) x (bitW y i))
theorem ridot_any(x y:W2)(w0:World):Gives Tryz.prog 174 #[WP x,WP y] w0 (WP (dotF x y 128)):=by
 unfold Gives
 have hm:=Own.start w0
 have B1:=Lib.hid fun (i:Nat)(h:i<128)(w:World)=>ribit_any y i h w
 have P1:=Lib.hid fun (a b:W2)(f:BitVec 64)(w:World)=>riplus_any a b f w
 have D1:=Lib.hid fun (a:W2)(w:World)=>ridown_any a w
 go_enter Tryz.func174,Tryz.ntmps174
 go_wp2_with (first|((first|((with_reducible show qAl);first|((with_reducible apply wq_new hm);exact rfl;infer_instance))|((with_reducible show qBx);first|((with_reducible apply wq_boxN hm);exact rfl;exact rfl)));clear hm;(first|(have hx_:=g1;clear hx_;(first|(have hx_:=g2;clear hx_;(first|(have hx_:=g3;clear hx_;(first|(have hx_:=g4;clear hx_;intro gx_)|intro g4))|intro g3))|intro g2))|intro g1);intro w hm))
 go_loopw [7] (fun i wr=>∃k:Nat,k≤128∧i= .int .i64 k∧Own w0 wr [⟨g4,71,[v64 (dotF x y k).1,v64 (dotF x y k).2]⟩,⟨g3,71,[v64 0#64,v64 0#64]⟩,⟨g2,71,[v64 y.1,v64 y.2]⟩,⟨g1,71,[v64 x.1,v64 x.2]⟩]) (fun i _=>128-(intOf i).toNat)
 case atStart=>exact⟨0,by omega,rfl,hm⟩
 case round =>
   obtain⟨k,hk,rfl,hm⟩:=hrel
   by_cases hlt:k<128
   · have hd:decide ((k:Int)<128)=true:=decide_eq_true (by omega)
     have hd2:(k:Int)<128:=by omega
     have EK:Hid (dotF x y (k+1)=downW (plusW (dotF x y k) x (bitW y k))):=Lib.hid rfl
     generalize dotF x y k=S at*
     go_wp2_with fail
     refine region_at 7 (fun w'=>Ext _ w') 19 (by kernel_rfl) (by kernel_rfl) rfl (fun _ _ h k=>h.trans k) (drew_ext _) ?_
     simp only [tSC,List.take_zero,dSC,List.drop_zero,List.map_cons,List.map_nil]
     repeat (first
         | (apply walk_is rfl rfl rfl
            · (intro wx hwx;first|((with_reducible show gives _ _ _ (Sem.run _ (execOp _ (Oper.mk _ (Op.load _ _) _ _ _ _)) _));first|((with_reducible apply gq_ldW (hm.ext hwx));infer_instance;exact rfl;(focus (repeat first|exact .hd|assumption|apply Has.tl);done);(focus (first|rfl|omega|(simp;done)|(simp;omega)))))|(go_simp;(try go_bits);first|exact gives_same|exact gives_skip|with_reducible exact gives_call (B1.out k hlt wx)|with_reducible exact gives_call (P1.out S x _ wx)|with_reducible exact gives_call (D1.out _ wx)))
            · (simp only [Act.put,sIB,sCS,sCZ];rfl))
         | (apply walk_not rfl rfl rfl
            · (simp only [Act.put,sIB,sCS,sCZ];rfl)))
     intro wz hwz
     simp only [zCC,zNR]
     repeat (first|rw [fin_is]|(rw [fin_cons];intro _ _))
     rw [fin_nil]
     try (replace hm:=hm.ext hwz)
     simp only [Act.put,sIB,sCS,sCZ]
     go_wp2_with (first|((((with_reducible show qSt);first|((with_reducible apply wq_stW hm);exact rfl;infer_instance;exact rfl;exact rfl;(focus (repeat first|exact .hd|assumption|apply Swap.tl);done);(focus (first|rfl|omega|(simp;done)|(simp;omega)));(focus (first|rfl|omega|(simp;done)|(simp;omega)));(focus (first|exact one_map _|(simp [one8,one32,one64];done))))));clear hm;intro w hm))
     go_roundw
     case rel=>exact⟨k+1,by omega,by go_num,by rw [EK.out];exact hm⟩
     case measure=>simp [intOf]<;>omega
   · obtain rfl:k=128:=by omega
     have hd:decide (((128:Nat):Int)<128)=false:=decide_eq_false (by omega)
     go_wp2_with (first|((with_reducible show qLd);first|((with_reducible apply wq_ldW hm);exact rfl;infer_instance;exact rfl;(focus (repeat first|exact .hd|assumption|apply Has.tl);done);(focus (first|rfl|omega|(simp;done)|(simp;omega)))))|((((with_reducible show qSt);first|((with_reducible apply wq_stW hm);exact rfl;infer_instance;exact rfl;exact rfl;(focus (repeat first|exact .hd|assumption|apply Swap.tl);done);(focus (first|rfl|omega|(simp;done)|(simp;omega)));(focus (first|rfl|omega|(simp;done)|(simp;omega)));(focus (first|exact one_map _|(simp [one8,one32,one64];done))))));clear hm;intro w hm))
     refine rtO hm rfl rfl (hR:=⟨rfl,hm.x⟩)
theorem run_rowN {P:Program}{w:World}{g k:Nat}{t T:TypeId}{cs cs':List Value}{n:Nat}(h:Row w g t cs)[hT:Many P T n](hv:(cs.drop k).take n=cs')(hn:cs'.length=n):(Instr.loadAt T (.pointer (some ⟨g,k,none⟩))).run P w= .ok (.agg cs'.toArray) w:=by
 obtain⟨d,hu,hd⟩:=Option.map_eq_some_iff.1 hT.row
 refine run_loadAt_mid w g k T cs' d (fun j v hj=> ?_) hu hd (by rw [hn];exact hT.size)
 rw [row_cell h]
 subst hv
 rw [List.getElem?_take]at hj
 split at hj
 · rwa [List.getElem?_drop]at hj
 · cases hj
theorem gq_rowN {P:Program}{a:Act}{w:World}{g k n:Nat}{t T ty:TypeId}{cs cs':List Value}{dst:Option Tmp}{x:Operand}{pos:String}{aft:Array Edge}{gd:Option (Nat×Bool)}(h:Row w g t cs)(hT:Many P T n)(hx:a.eval x= .pointer (some ⟨g,k,none⟩))(hv:(cs.drop k).take n=cs')(hn:cs'.length=n):gives P w (Is (.agg cs'.toArray)) ((execOp a.eval (Oper.mk dst (.load T x) ty pos aft gd)).run P w):=by
 unfold execOp
 simp only [hx,Sem.run_bind,run_rowN h hv hn,Result.andThen_ok,Sem.run_pure]
 exact gives_same
theorem wq_rowN {P:Program}{ops:Array Oper}{Q:Exit→Act→World→Prop}{rest:List Oper}{a:Act}{w:World}{g k n:Nat}{t T ty:TypeId}{cs cs':List Value}{dst:Option Tmp}{x:Operand}{pos:String}{aft:Array Edge}{gd:Option (Nat×Bool)}(h:Row w g t cs)(hgd:Region.wanted (Oper.mk dst (.load T x) ty pos aft gd) (yielded ops a.tmps)=true)(hT:Many P T n)(hx:a.eval x= .pointer (some ⟨g,k,none⟩))(hv:(cs.drop k).take n=cs')(hn:cs'.length=n)(hr:wpList P ops Q rest (a.put dst (.agg cs'.toArray)) w):wpList P ops Q (Oper.mk dst (.load T x) ty pos aft gd::rest) a w:=
 wpList_want hgd fun K hK=>by
   unfold Oper.wp execOp
   simp only [hx,Sem.run_bind,run_rowN h hv hn,Result.andThen_ok,Sem.run_pure]
   exact hK _ _ hr
theorem two_at(l:List (BitVec 64))(n:Nat)(h:2*n+1<l.length):((l.map v64).drop (2*n)).take 2=[v64 (nth l (2*n)),v64 (nth l (2*n+1))]:=by
 rw [List.drop_eq_getElem_cons (by rw [List.length_map];omega),List.drop_eq_getElem_cons (by rw [List.length_map];omega),tSC,tSC,List.take_zero,List.getElem_map,List.getElem_map,nth_get (by omega),nth_get h]
def ent(l:List (BitVec 64))(n:Nat):W2:=(nth l (2*n),nth l (2*n+1))
def upK(s:W2):Nat→W2
 |0=>s
 |j+1=>upW (upK s j)
def nibF(l:List (BitVec 64))(s:W2)(n:Byte):W2:=plusW (upK s 4) (ent l n.toNat) 1#64
def nb2(l:List (BitVec 64))(s:W2)(x y:Byte):Nat→W2
 |0=>s
 |1=>nibF l s x
 |_=>nibF l (nibF l s x) y
def dtF(l:List (BitVec 64))(a:List Byte):Nat→W2
 |0=>(0#64,0#64)
 |i+1=>nb2 l (dtF l a i) (nth a (15-i)>>>4) (nth a (15-i)&&&15#8) 2
def dotT(l:List (BitVec 64))(a:List Byte):List Byte:=putL (dtF l a 16).1 8++putL (dtF l a 16).2 8
theorem ritdot_any (g:Nat)(l:List (BitVec 64))(hl:l.length=32)(a:List Byte)(ha:a.length=16)(w0:World)(h:Row w0 g 258 (l.map v64)):Gives Tryz.prog 173 #[.pointer (some ⟨g,0,none⟩),A8 a] w0 (A8 (dotT l a)):=by
 unfold Gives
 have hm:=Own.start w0
 have HT:=Lib.hid fun wx (hx:Ext w0 wx)=>row_ext h hx
 have HL:=Lib.hid hl
 have U1:=Lib.hid fun (s:W2)(w:World)=>riup_any s w
 have P1:=Lib.hid fun (s b:W2)(f:BitVec 64)(w:World)=>riplus_any s b f w
 have PL:=Lib.hid fun (s:W2)(n:Nat)(w:World)=>show Gives Tryz.prog 175 #[WP s, .agg #[v64 (nth l (2*n)),v64 (nth l (2*n+1))], .int .u64 1] w (WP (plusW s (ent l n) 1#64))from riplus_any s (ent l n) 1#64 w
 have ED:Hid (dotT l a=putL (dtF l a 16).1 8++putL (dtF l a 16).2 8):=Lib.hid rfl
 have ha1:=Nat.le_of_eq ha
 have ha2:=Nat.le_of_eq ha.symm
 clear h hl ha
 go_enter Tryz.func173,Tryz.ntmps173
 go_wp2_with (first|((first|((with_reducible show qAl);first|((with_reducible apply wq_new hm);exact rfl;infer_instance))|((with_reducible show qBx);first|((with_reducible apply wq_boxN hm);exact rfl;exact rfl)));clear hm;(first|(have hx_:=g1;clear hx_;(first|(have hx_:=g2;clear hx_;(first|(have hx_:=g3;clear hx_;intro gx_)|intro g3))|intro g2))|intro g1);intro w hm))
 go_loopw [13] (fun i wr=>∃k:Nat,k≤16∧i= .int .i64 k∧Own w0 wr [⟨g3,71,[v64 (dtF l a k).1,v64 (dtF l a k).2]⟩,⟨g2,68,(zer 16).map v8⟩,⟨g1,68,a.map v8⟩]) (fun i _=>16-(intOf i).toNat)
 case atStart=>exact⟨0,by omega,rfl,hm⟩
 case round =>
   obtain⟨k,hk,rfl,hm⟩:=hrel
   by_cases hlt:k<16
   · have hd : decide ((k:Int)<16)=true:=decide_eq_true (by omega)
     have hd2:(k:Int)<16:=by omega
     have EK:Hid (dtF l a (k+1)=nb2 l (dtF l a k) (nth a (15-k)>>>4) (nth a (15-k)&&&15#8) 2):=Lib.hid rfl
     have i1:(15:Int)-(k:Int)=((15-k:Nat):Int):=by omega
     generalize dtF l a k=S at*
     go_wp2_with (first|((with_reducible show qLd);first|((with_reducible apply wq_ldv hm);exact rfl;infer_instance;exact rfl;(focus (repeat first|exact .hd|assumption|apply Has.tl);done);(focus (first|omega|(simp;omega)|(refine ltB ?_;first|omega|(simp;done)|(simp;omega)))))))
     obtain⟨B,hB⟩:∃B,B=nth a (15-k):=⟨_,rfl⟩
     rw [←hB]at EK⊢
     obtain⟨x,hx⟩:∃x,x=B>>>4:=⟨_,rfl⟩
     obtain⟨y,hy⟩:∃y,y=B&&&15#8:=⟨_,rfl⟩
     have hx4:x.toNat<16:=by rw [hx,BitVec.toNat_ushiftRight,Nat.shiftRight_eq_div_pow];have:=B.isLt;omega
     have hy4:y.toNat<16:=by rw [hy,BitVec.toNat_and];exact Nat.lt_of_le_of_lt Nat.and_le_right (by decide)
     rw [←hx,←hy]at EK⊢
     have IX:=fun (j:Nat)(hj:j<2)(w:World)=>show(Instr.index 261 (.agg #[v8 x,v8 y]) (.int .i64 (j:Int))).run Tryz.prog w= .ok (v8 (nth [x,y] j)) w from run_index_v (P:=Tryz.prog) (T:=261) (e:=5) (f:=v8) (by kernel_rfl) [x,y] rfl j hj w
     have NX:=Lib.hid fun (j:Nat)(hj:j<2)=>(show(nth [x,y] j).toNat<16 from by
       rcases (show j=0∨j=1 by omega)with rfl|rfl
       · exact hx4
       · exact hy4)
     have NB:=Lib.hid fun (j:Nat)(hj:j<2)=>(show nb2 l S x y (j+1)=nibF l (nb2 l S x y j) (nth [x,y] j)from by
       rcases (show j=0∨j=1 by omega)with rfl|rfl<;>rfl)
     have IX:=Lib.hid IX
     have NZ:Hid (nb2 l S x y 0=S):=Lib.hid rfl
     clear hB hx hy hx4 hy4
     go_loopw [25] (fun i wr=>∃j:Nat,j≤2∧i= .int .i64 j∧Own w0 wr [⟨g3,71,[v64 (nb2 l S x y j).1,v64 (nb2 l S x y j).2]⟩,⟨g2,68,(zer 16).map v8⟩,⟨g1,68,a.map v8⟩]) (fun i _=>2-(intOf i).toNat)
     case atStart=>exact⟨0,by omega,rfl,by rw [NZ.out];exact hm⟩
     case round =>
       obtain⟨j,hj,rfl,hm⟩:=hrel
       by_cases hlj:j<2
       · have hd3 : decide ((j:Int)<2)=true:=decide_eq_true (by omega)
         have hd4:(j:Int)<2:=by omega
         obtain⟨N,hN⟩:∃N,N=nth [x,y] j:=⟨_,rfl⟩
         have nx:N.toNat<16:=by rw [hN];exact NX.out j hlj
         have nx2:(N.toNat:Int)<16:=by omega
         have NB1:Hid (nb2 l S x y (j+1)=nibF l (nb2 l S x y j) N):=Lib.hid (by rw [hN];exact NB.out j hlj)
         have HN:=Lib.hid hN
         clear hN
         generalize nb2 l S x y j=V at*
         have UZ:Hid (upK V 0=V):=Lib.hid rfl
         have TE:=Lib.hid (show((l.map v64).drop (N.toNat*2)).take 2=[v64 (nth l (2*N.toNat)),v64 (nth l (2*N.toNat+1))]from by rw [Nat.mul_comm];exact two_at l N.toNat (by rw [HL.out];omega))
         have NBF:Hid (nibF l V N=plusW (upK V 4) (ent l N.toNat) 1#64):=Lib.hid rfl
         go_wp2_with fail
         rw [←HN.out]
         go_loopw [28] (fun i wr=>∃t:Nat,t≤4∧i= .int .i64 t∧Own w0 wr [⟨g3,71,[v64 (upK V t).1,v64 (upK V t).2]⟩,⟨g2,68,(zer 16).map v8⟩,⟨g1,68,a.map v8⟩]) (fun i _=>4-(intOf i).toNat)
         case atStart=>exact⟨0,by omega,rfl,by rw [UZ.out];exact hm⟩
         case round =>
           obtain⟨t,ht,rfl,hm⟩:=hrel
           by_cases hlt4:t<4
           · have hd5:decide ((t:Int)<4)=true:=decide_eq_true (by omega)
             have hd6:(t:Int)<4:=by omega
             have UK:Hid (upK V (t+1)=upW (upK V t)):=Lib.hid rfl
             generalize upK V t=T at*
             go_wp2_with (first|(go_at_call 176;(with_reducible refine(U1.out _ _).mono ?_);rintro e_ w ⟨rfl,hx_⟩;replace hm:=hm.ext hx_;clear hx_)|((with_reducible show qLd);first|((with_reducible apply wq_ldW hm);exact rfl;infer_instance;exact rfl;(focus (repeat first|exact .hd|assumption|apply Has.tl);done);(focus (first|rfl|omega|(simp;done)|(simp;omega)))))|((((with_reducible show qSt);first|((with_reducible apply wq_stW hm);exact rfl;infer_instance;exact rfl;exact rfl;(focus (repeat first|exact .hd|assumption|apply Swap.tl);done);(focus (first|rfl|omega|(simp;done)|(simp;omega)));(focus (first|rfl|omega|(simp;done)|(simp;omega)));(focus (first|exact one_map _|(simp [one8,one32,one64];done))))));clear hm;intro w hm))
             go_roundw
             case rel=>exact⟨t+1,by omega,by go_num,by rw [UK.out];exact hm⟩
             case measure=>simp [intOf]<;>omega
           · obtain rfl:t=4:=by omega
             have hd5:decide (((4:Nat):Int)<4)=false:=decide_eq_false (by omega)
             generalize upK V 4=T at*
             go_wp2_with fail
             have ht0:=fun wx (hwx:Ext wr wx)=>HT.out wx (hm.x.trans hwx)
             refine region_at 8 (fun w'=>Ext _ w') 45 (by kernel_rfl) (by kernel_rfl) rfl (fun _ _ h k=>h.trans k) (drew_ext _) ?_
             simp only [tSC,List.take_zero,dSC,List.drop_zero,List.map_cons,List.map_nil]
             repeat (first
                 |(apply walk_is rfl rfl rfl;(intro wx hwx;(with_reducible apply gq_rowN (ht0 wx hwx));infer_instance;exact rfl;exact TE.out;exact rfl);(simp only [Act.put,sIB,sCS,sCZ];rfl))
                 | (apply walk_is rfl rfl rfl
                    · (intro wx hwx;first|((with_reducible show gives _ _ _ (Sem.run _ (execOp _ (Oper.mk _ (Op.load _ _) _ _ _ _)) _));first|((with_reducible apply gq_ldW (hm.ext hwx));infer_instance;exact rfl;(focus (repeat first|exact .hd|assumption|apply Has.tl);done);(focus (first|rfl|omega|(simp;done)|(simp;omega)))))|(go_simp;(try go_bits);first|exact gives_same|exact gives_skip|with_reducible exact gives_call (PL.out T N.toNat wx)))
                    · (simp only [Act.put,sIB,sCS,sCZ];rfl))
                 | (apply walk_not rfl rfl rfl
                    · (simp only [Act.put,sIB,sCS,sCZ];rfl)))
             intro wz hwz
             simp only [zCC,zNR]
             repeat (first|rw [fin_is]|(rw [fin_cons];intro _ _))
             rw [fin_nil]
             try (replace hm:=hm.ext hwz)
             simp only [Act.put,sIB,sCS,sCZ]
             clear ht0
             go_wp2_with (first|((((with_reducible show qSt);first|((with_reducible apply wq_stW hm);exact rfl;infer_instance;exact rfl;exact rfl;(focus (repeat first|exact .hd|assumption|apply Swap.tl);done);(focus (first|rfl|omega|(simp;done)|(simp;omega)));(focus (first|rfl|omega|(simp;done)|(simp;omega)));(focus (first|exact one_map _|(simp [one8,one32,one64];done))))));clear hm;intro w hm))
             go_roundw
             case rel=>exact⟨j+1,by omega,by go_num,by rw [NB1.out,NBF.out];exact hm⟩
             case measure=>simp [intOf]<;>omega
       · obtain rfl:j=2:=by omega
         have hd3:decide (((2:Nat):Int)<2)=false:=decide_eq_false (by omega)
         go_wp2_with fail
         go_roundw
         case rel=>exact⟨k+1,by omega,by go_num,by rw [EK.out];exact hm⟩
         case measure=>simp [intOf]<;>omega
   · obtain rfl:k=16:=by omega
     have hd:decide (((16:Nat):Int)<16)=false:=decide_eq_false (by omega)
     have lD:(dotT l a).length=16:=by rw [ED.out,List.length_append,putL_length,putL_length]
     rw [ED.out]at lD
     go_wp2_with (first|(go_at_call 32;(with_reducible refine(bytes_any _ _ _).mono ?_);rintro e_ w ⟨rfl,hx_⟩;replace hm:=hm.ext hx_;clear hx_)|((with_reducible show qLd);first|((with_reducible apply wq_ldW hm);exact rfl;infer_instance;exact rfl;(focus (repeat first|exact .hd|assumption|apply Has.tl);done);(focus (first|rfl|omega|(simp;done)|(simp;omega)))))|((((with_reducible show qSt);first|((with_reducible apply wq_stW hm);exact rfl;infer_instance;exact rfl;exact rfl;(focus (repeat first|exact .hd|assumption|apply Swap.tl);done);(focus (first|rfl|omega|(simp;done)|(simp;omega)));(focus (first|rfl|omega|(simp;done)|(simp;omega)));(focus (first|exact one_map _|(simp [one8,one32,one64];done))))));clear hm;intro w hm))
     refine rtO hm rfl rfl (hR:=⟨rfl,hm.x⟩)
end Go.Proofs.YtllnjbiebdkmbaaGreatDoor
