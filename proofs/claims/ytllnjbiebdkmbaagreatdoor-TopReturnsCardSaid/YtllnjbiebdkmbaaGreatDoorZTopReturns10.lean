/-
  Texts of the program, walked, and plain ones. Conditions: those written in each theorem.
-/
import Derived.Test.YtllnjbiebdkmbaaGreatDoorZTopReturns0
import Derived.Test.YtllnjbiebdkmbaaGreatDoorZTopReturns9
import Derived.Test.YtllnjbiebdkmbaaGreatDoorZTopReturns5
import Derived.RegionTactic
import Derived.Test.YtllnjbiebdkmbaaGreatDoorZTopReturns8
set_option linter.unusedSimpArgs false
set_option linter.unusedVariables false
set_option maxHeartbeats 16000000
namespace Go.Proofs.YtllnjbiebdkmbaaGreatDoor
open Go Go.RowKit
set_option maxRecDepth 100000
abbrev A64(l:List (BitVec 64)):Value:= .agg (l.map v64).toArray
def CoefB(w:World):Prop:=(∀i,i<8→w.cell? ⟨2,i,none⟩=some (v64 (nth firstL i)))∧RdK w (some ⟨3,0,none⟩) 16 rowsL
theorem CoefB.ext {w w':World}(h:CoefB w)(hx:Ext w w'):CoefB w':=⟨fun i hi=>hx.cell (h.1 i hi),h.2.ext hx⟩
theorem CoefB.row {w:World}(h:CoefB w)(q:Nat)(hq:q<10):RdB w (some ⟨3,q*16,none⟩) (rowL q):=by
 have:=(h.2.at (by omega) q (by rw [rowsL_length];exact hq)).1
 have e:((some (⟨3,0,none⟩:Addr)).getD default).add (q*16)=⟨3,q*16,none⟩:=by simp [Addr.add];omega
 rw [e]at this
 rwa [rowL,Nat.mod_eq_of_lt hq]
theorem long_G(b:List Byte)(p:Option Addr)(c n:Nat)(i:Int)(w:World)(hb:b.length=n)(hn:n≤140737488355328)(h0: -9223372036854775808≤i)(h1:i≤9223372036854775807)(hr:RdB w p b):Gives Tryz.prog 89 #[.slice p n c, .int .i64 i] w (v64 (num b i 8)):=by
 subst hb;exact long_any b p c i w hr hn h0 h1
theorem Own.turn64 {w0 w:World}{L L':List Blk}{g k:Nat}{t:TypeId}{l:List (BitVec 64)}{b:BitVec 64}(h:Own w0 w L)(hs:Swap L ⟨g,t,l.map v64⟩ ⟨g,t,(setN l k b).map v64⟩ L'):Own w0 (w.setCell ⟨g,k,none⟩ (v64 b)) L':=by
 rw [←mapv_set]at hs;exact h.turnC hs
def mF(b:List Byte)(i:Nat):BitVec 64:=num b (8*(i:Int)) 8
def mL(b:List Byte):List (BitVec 64):=tab 16 (mF b)
attribute [local simp] compL_length
theorem compress_any (h : List (BitVec 64))(b:List Byte)(lo hi:BitVec 64)(last:Bool)(hh:h.length=8)(hb:b.length=128)(w0:World)(hc:CoefB w0):
   Gives Tryz.prog 86 #[A64 h,A8 b, .agg #[v64 lo,v64 hi], .bool last] w0 (A64 (compL h (mL b) lo hi last)):=by
 unfold Gives
 have hm:=Own.start w0
 have HC:=Lib.hid hc
 have HB:=Lib.hid hb
 have HH:=Lib.hid hh
 have hb1:=Nat.le_of_eq hb
 have hb2:=Nat.le_of_eq hb.symm
 have hh1:=Nat.le_of_eq hh
 have hh2:=Nat.le_of_eq hh.symm
 obtain⟨V,hV⟩:∃V,initL h lo hi last=V:=⟨_,rfl⟩
 have HV:=Lib.hid hV
 have HI:=Lib.hid (hV ▸ initL_length h lo hi last)
 have EC:=Lib.hid (show compL h (mL b) lo hi last=tab 8 fun i=>nth h i^^^(nth (roundF (mL b) V 12) i^^^nth (roundF (mL b) V 12) (i+8))by rw [compL,hV])
 have lC:(compL h (mL b) lo hi last).length=8:=compL_length _ _ _ _ _
 generalize compL h (mL b) lo hi last=CL at*
 clear hc hb hh hV
 go_enter Tryz.func86,Tryz.ntmps86
 go_wp2_with (first|((first|((with_reducible show qAl);first|((with_reducible apply wq_new hm);exact rfl;infer_instance))|((with_reducible show qBx);first|((with_reducible apply wq_boxN hm);exact rfl;exact rfl)));clear hm;(first|(have hx_:=g1;clear hx_;(first|(have hx_:=g2;clear hx_;(first|(have hx_:=g3;clear hx_;(first|(have hx_:=g4;clear hx_;(first|(have hx_:=g5;clear hx_;(first|(have hx_:=g6;clear hx_;(first|(have hx_:=g7;clear hx_;intro gx_)|intro g7))|intro g6))|intro g5))|intro g4))|intro g3))|intro g2))|intro g1);intro w hm))
 go_loopw [17] (fun i wr=>∃k:Nat,k≤16∧i= .int .i64 k∧Own w0 wr [⟨g6,182,(zer (n:=64) 16).map v64⟩,⟨g5,182,(part 16 k (mF b) fun _=>0).map v64⟩,⟨g4,168,(zer (n:=64) 8).map v64⟩,⟨g3,71,[v64 lo,v64 hi]⟩,⟨g2,174,b.map v8⟩,⟨g1,168,h.map v64⟩]) (fun i _=>16-(intOf i).toNat)
 case atStart=>exact⟨0,by omega,rfl,by rw [←zer_start];exact hm⟩
 case round =>
   obtain⟨k,hk,rfl,hm⟩:=hrel
   by_cases hlt:k<16
   · go_wp2_with (first|(go_at_call 89;(with_reducible refine(long_G b _ _ _ _ _ HB.out (by omega) (by omega) (by omega) (hm.rdB (by repeat (first|exact Has.hd|assumption|apply Has.tl)))).mono ?_);rintro e_ w ⟨rfl,hx_⟩;replace hm:=hm.ext hx_;clear hx_)|((((with_reducible show qSt);first|((with_reducible apply wq_stv hm);exact rfl;infer_instance;exact rfl;(focus (repeat first|exact .hd|assumption|apply Swap.tl);done);infer_instance;exact rfl;(focus (first|omega|(simp;omega)|(refine ltB ?_;first|omega|(simp;done)|(simp;omega)))))));clear hm;intro w hm))
     go_roundw
     case rel=>
       rw [part_set' (f:=mF b) (x:=num b (8*(k:Int)) 8) hlt rfl]at hm
       exact⟨k+1,by omega,by go_num,hm⟩
     case measure=>simp [intOf]<;>omega
   · obtain rfl : k = 16 :=by omega
     rw [part_all]at hm
     go_wp2_with fail
     go_loopw [27] (fun i wr=>∃k:Nat,k≤8∧i= .int .i64 k∧Own w0 wr [⟨g6,182,(startF h k).map v64⟩,⟨g5,182,(mL b).map v64⟩,⟨g4,168,(zer (n:=64) 8).map v64⟩,⟨g3,71,[v64 lo,v64 hi]⟩,⟨g2,174,b.map v8⟩,⟨g1,168,h.map v64⟩]) (fun i _=>8-(intOf i).toNat)
     case atStart=>exact⟨0,by omega,rfl,hm⟩
     case round =>
       obtain⟨k,hk,rfl,hm⟩:=hrel
       by_cases hlt:k<8
       · have hd:decide ((k:Int)<8)=true:=by simp;omega
         go_wp2_with fail
         have sl:=startF_length h k
         have o1:=hm.turn64 (g:=g6) (k:=k) (b:=nth h k) (by repeat (first|exact Swap.hd|assumption|apply Swap.tl))
         have o2:=o1.turn64 (g:=g6) (k:=k+8) (b:=nth firstL k) (by repeat (first|exact Swap.hd|assumption|apply Swap.tl))
         have r6:=hm.row (g:=g6) (by repeat (first|exact Has.hd|assumption|apply Has.tl))
         have hcH:wr.cell? ⟨g1,k,none⟩=some (v64 (nth h k)):=by rw [row_cell (hm.row (g:=g1) (by repeat (first|exact Has.hd|assumption|apply Has.tl))),map64_at h (by omega)]
         have hcF:=(HC.out.ext hm.x).1 k hlt
         have hcV:wr.cell? ⟨g6,k,none⟩=some (v64 (nth (startF h k) k)):=by rw [row_cell r6,map64_at _ (by omega)]
         have hcW:wr.cell? ⟨g6,k+8,none⟩=some (v64 (nth (startF h k) (k+8))):=by rw [row_cell r6,map64_at _ (by omega)]
         have hf1:=row_free r6 k
         have hf2:=row_free r6 (k+8)
         have hne:¬k=k+8:=by omega
         have hk8:(k:Int)<8:=by omega
         have O2:=Lib.hid o2
         clear o1 o2 r6 hm
         go_region
         all_goals
           go_wp2_with fail
           go_roundw
           case rel=>exact⟨k+1,by omega,by go_num,O2.out.drew⟩
           case measure=>simp [intOf]<;>omega
       · obtain rfl : k = 8:=by omega
         have hs:=startF_length h 8
         have hmb:(mL b).length=16:=tab_length
         have hi0:=HI.out
         have REST:=Lib.hid (show roundF (mL b) V 0=V from rfl)
         have e2:∀v0,startF h 8=v0→V=if last then notN (xorN (xorN v0 12 lo) 13 hi) 14 else xorN (xorN v0 12 lo) 13 hi:=by rintro v0 rfl;rw [←HV.out];rfl
         obtain⟨v0,hv0⟩:∃v0,startF h 8=v0:=⟨_,rfl⟩
         have e3:=e2 v0 hv0
         rw [hv0]at hm hs
         clear e2 hv0
         cases last
         all_goals
           simp only [Bool.false_eq_true,if_true,if_false]at e3
           have E3:=Lib.hid e3
           clear e3
           go_wp2_with (first|((with_reducible show qLd);first|((with_reducible apply wq_ldv hm);exact rfl;infer_instance;exact rfl;(focus (repeat first|exact .hd|assumption|apply Has.tl);done);(focus (first|omega|(simp;omega)|(refine ltB ?_;first|omega|(simp;done)|(simp;omega)))))|((with_reducible apply wq_ld1 hm);exact rfl;infer_instance;exact rfl;(focus (repeat first|exact .hd|assumption|apply Has.tl);done);exact rfl))|((((with_reducible show qSt);first|((with_reducible apply wq_stv hm);exact rfl;infer_instance;exact rfl;(focus (repeat first|exact .hd|assumption|apply Swap.tl);done);infer_instance;exact rfl;(focus (first|omega|(simp;omega)|(refine ltB ?_;first|omega|(simp;done)|(simp;omega)))))));clear hm;intro w hm))
           first
             | (replace hm:Own w0 w [⟨g6,182,(xorN (xorN v0 12 lo) 13 hi).map v64⟩,⟨g5,182,(mL b).map v64⟩,⟨g4,168,(zer (n:=64) 8).map v64⟩,⟨g3,71,[v64 lo,v64 hi]⟩,⟨g2,174,b.map v8⟩,⟨g1,168,h.map v64⟩]:=hm
                rw [←E3.out]at hm)
             | (replace hm:Own w0 w [⟨g6,182,(notN (xorN (xorN v0 12 lo) 13 hi) 14).map v64⟩,⟨g5,182,(mL b).map v64⟩,⟨g4,168,(zer (n:=64) 8).map v64⟩,⟨g3,71,[v64 lo,v64 hi]⟩,⟨g2,174,b.map v8⟩,⟨g1,168,h.map v64⟩]:=hm
                rw [←E3.out]at hm)
           rw [←REST.out]at hm
           clear REST E3
           generalize mL b=M at*
           have hm1:=Nat.le_of_eq hmb
           have hm2:=Nat.le_of_eq hmb.symm
           go_wp2_with fail
           go_loopw [59] (fun i wr=>∃r:Nat,r≤12∧i= .int .i64 r∧Own w0 wr [⟨g6,182,(roundF M V r).map v64⟩,⟨g5,182,(M).map v64⟩,⟨g4,168,(zer (n:=64) 8).map v64⟩,⟨g3,71,[v64 lo,v64 hi]⟩,⟨g2,174,b.map v8⟩,⟨g1,168,h.map v64⟩]) (fun i _=>12-(intOf i).toNat)
           case atStart=>exact⟨0,by omega,rfl,hm⟩
           case round =>
             obtain⟨r,hr,rfl,hm⟩:=hrel
             by_cases hlt:r<12
             · have hd : decide ((r:Int)<12)=true:=by simp;omega
               obtain⟨q,hq,hq4⟩:∃q:Nat,r%10=q∧q<10:=⟨_,rfl,Nat.mod_lt _ (by omega)⟩
               have a1:(r:Int)%10=(q:Int):=by omega
               have a2:(r:Int).tmod 10=(q:Int):=by rw [Int.tmod_eq_emod_of_nonneg (by omega)];exact a1
               have hq10:(q:Int)<10:=by omega
               have e1:roundF M V (r+1)=stepF M (rowL q) (roundF M V r) 8:=by rw [roundF,←hq];simp only [rowL,Nat.mod_mod]
               have lR:(rowL q).length=16:=rowL_length q
               have ltR:=rowL_lt q
               have RQ:=Lib.hid (HC.out.row q hq4)
               have lv:(roundF M V r).length=16:=by rw [roundF_length,hi0]
               generalize roundF M V r=W0 at*
               generalize rowL q=RW at*
               have E1:=Lib.hid e1
               have LTR:=Lib.hid ltR
               clear e1 ltR hq
               go_wp2_with (first|((with_reducible apply wq_rdW (RQ.out.ext (hm.x)));exact rfl;infer_instance;exact rfl;exact lR)|((((with_reducible show qSt);first|((with_reducible apply wq_stW hm);exact rfl;infer_instance;exact rfl;exact rfl;(focus (repeat first|exact .hd|assumption|apply Swap.tl);done);(focus (first|rfl|omega|(simp;done)|(simp;omega)));(focus (first|rfl|omega|(simp;done)|(simp;omega)));(focus (first|exact one_map _|(simp [one8,one32,one64];done))))));clear hm;intro w hm)|((first|((with_reducible show qAl);first|((with_reducible apply wq_new hm);exact rfl;infer_instance)));clear hm;(first|(have hx_:=g1;clear hx_;(first|(have hx_:=g2;clear hx_;(first|(have hx_:=g3;clear hx_;(first|(have hx_:=g4;clear hx_;(first|(have hx_:=g5;clear hx_;(first|(have hx_:=g6;clear hx_;(first|(have hx_:=g7;clear hx_;intro gx_)|intro g7))|intro g6))|intro g5))|intro g4))|intro g3))|intro g2))|intro g1);intro w hm))
               go_loopw [66] (fun i wr=>∃k:Nat,k≤8∧i= .int .i64 k∧Own w0 wr [⟨g7,68,RW.map v8⟩,⟨g6,182,(stepF M RW W0 k).map v64⟩,⟨g5,182,M.map v64⟩,⟨g4,168,(zer (n:=64) 8).map v64⟩,⟨g3,71,[v64 lo,v64 hi]⟩,⟨g2,174,b.map v8⟩,⟨g1,168,h.map v64⟩]) (fun i _=>8-(intOf i).toNat)
               case atStart=>exact⟨0,by omega,rfl,hm⟩
               case round =>
                 obtain⟨k,hk,rfl,hm⟩:=hrel
                 by_cases hlt:k<8
                 · have hd:decide ((k:Int)<8)=true:=by simp;omega
                   obtain⟨qi,hqi,hqi4⟩:∃q:Nat,k%4=q∧q<4:=⟨_,rfl,Nat.mod_lt _ (by omega)⟩
                   obtain⟨di,hdi,hdi4⟩:∃q:Nat,k/4=q∧q<2:=⟨_,rfl,by omega⟩
                   have a1:(k:Int)%4=(qi:Int):=by omega
                   have a2:(k:Int).tmod 4=(qi:Int):=by rw [Int.tmod_eq_emod_of_nonneg (by omega)];exact a1
                   have a3:(k:Int)/4=(di:Int):=by omega
                   have a4:(k:Int).tdiv 4=(di:Int):=by rw [Int.tdiv_eq_ediv_of_nonneg (by omega)];exact a3
                   have b1:2*(k:Int)<16:=by omega
                   have b2:0≤2*(k:Int):=by omega
                   have b3:(2*(k:Int)).toNat=2*k:=by omega
                   have b4:2*(k:Int)+1<16:=by omega
                   have b5:0≤2*(k:Int)+1:=by omega
                   have b6:(2*(k:Int)+1).toNat=2*k+1:=by omega
                   have c1:=LTR.out (2*k)
                   have c2:=LTR.out (2*k+1)
                   have c3:((nth RW (2*k)).toNat:Int)<16:=by omega
                   have c4:((nth RW (2*k+1)).toNat:Int)<16:=by omega
                   have e2:stepF M RW W0 (k+1)=stirL (stepF M RW W0 k) qi di (nth M (nth RW (2*k)).toNat) (nth M (nth RW (2*k+1)).toNat):=by rw [stepF,hqi,hdi]
                   have E2:=Lib.hid e2
                   have lsF:(stepF M RW W0 k).length=16:=by rw [stepF_length,lv]
                   clear e2 hqi hdi
                   go_wp2_with fail
                   refine region_at 17 (fun w'=>Ext _ w') 107 (by kernel_rfl) (by kernel_rfl) rfl (fun _ _ h k=>h.trans k) (drew_ext _) ?_
                   simp only [tSC,List.take_zero,dSC,List.drop_zero,List.map_cons,List.map_nil]
                   repeat (first
                       | (apply walk_is rfl rfl rfl
                          · (intro wx hwx;first|((with_reducible show gives _ _ _ (Sem.run _ (execOp _ (Oper.mk _ (Op.load _ _) _ _ _ _)) _));first|((with_reducible apply gq_ldv (hm.ext hwx));infer_instance;exact rfl;(focus (repeat first|exact .hd|assumption|apply Has.tl);done);(focus (first|omega|(simp;omega)|(refine ltB ?_;first|omega|(simp;done)|(simp;omega))))))|(go_simp;(try go_bits);first|exact gives_same|exact gives_skip))
                          · (simp only [Act.put,sIB,sCS,sCZ];rfl))
                       | (apply walk_not rfl rfl rfl
                          · (simp only [Act.put,sIB,sCS,sCZ];rfl)))
                   intro wz hwz
                   simp only [zCC,zNR]
                   repeat (first|rw [fin_is]|(rw [fin_cons];intro _ _))
                   rw [fin_nil]
                   try (replace hm:=hm.ext hwz)
                   simp only [Act.put,sIB,sCS,sCZ]
                   go_wp2_with fail
                   refine(stir_any g6 (stepF M RW W0 k) qi di _ _ lsF hqi4 hdi4 w0 _ _ _ hm (by repeat (first|exact Swap.hd|assumption|apply Swap.tl))).mono ?_
                   rintro e w ⟨rfl,hm⟩
                   rw [←E2.out]at hm
                   go_wp2
                   go_roundw
                   case rel=>exact⟨k+1,by omega,by go_num,hm⟩
                   case measure=>simp [intOf]<;>omega
                 · obtain rfl:k=8:=by omega
                   rw [←E1.out]at hm
                   go_wp2_with fail
                   go_roundw
                   case rel=>exact⟨r+1,by omega,by go_num,hm.drop⟩
                   case measure=>simp [intOf]<;>omega
             · obtain rfl :r=12:=by omega
               rw [show((12:Nat):Int)=12 from rfl]
               have lv:(roundF M V 12).length=16:=by rw [roundF_length,hi0]
               generalize roundF M V 12=Z at*
               rw [part_start (f:=fun i=>nth h i^^^(nth Z i^^^nth Z (i+8))) HH.out]at hm
               go_wp2_with fail
               go_loopw [89] (fun i wr=>∃k:Nat,k≤8∧i= .int .i64 k∧Own w0 wr [⟨g6,182,Z.map v64⟩,⟨g5,182,M.map v64⟩,⟨g4,168,(zer (n:=64) 8).map v64⟩,⟨g3,71,[v64 lo,v64 hi]⟩,⟨g2,174,b.map v8⟩,⟨g1,168,(part 8 k (fun i=>nth h i^^^(nth Z i^^^nth Z (i+8))) (nth h)).map v64⟩]) (fun i _=>8-(intOf i).toNat)
               case atStart=>exact⟨0,by omega,rfl,hm⟩
               case round =>
                 obtain⟨k,hk,rfl,hm⟩:=hrel
                 by_cases hlt:k<8
                 · have e1:nth (part 8 k (fun i=>nth h i^^^(nth Z i^^^nth Z (i+8))) (nth h)) k=nth h k:=nth_part_ge hlt (Nat.le_refl _)
                   have hd:decide ((k:Int)<8)=true:=by simp;omega
                   have b1:(k:Int)<8:=by omega
                   have b2:(k:Int)<16:=by omega
                   have b3:(k:Int)+8<16:=by omega
                   have b4:0≤(k:Int)+8:=by omega
                   have b5:((k:Int)+8).toNat=k+8:=by omega
                   go_wp2_with fail
                   refine region_at 13 (fun w'=>Ext _ w') 107 (by kernel_rfl) (by kernel_rfl) rfl (fun _ _ h k=>h.trans k) (drew_ext _) ?_
                   simp only [tSC,List.take_zero,dSC,List.drop_zero,List.map_cons,List.map_nil]
                   repeat (first
                       | (apply walk_is rfl rfl rfl
                          · (intro wx hwx;first|((with_reducible show gives _ _ _ (Sem.run _ (execOp _ (Oper.mk _ (Op.load _ _) _ _ _ _)) _));first|((with_reducible apply gq_ldv (hm.ext hwx));infer_instance;exact rfl;(focus (repeat first|exact .hd|assumption|apply Has.tl);done);(focus (first|omega|(simp;omega)|(refine ltB ?_;first|omega|(simp;done)|(simp;omega))))))|(go_simp;(try go_bits);first|exact gives_same|exact gives_skip))
                          · (simp only [Act.put,sIB,sCS,sCZ];rfl))
                       | (apply walk_not rfl rfl rfl
                          · (simp only [Act.put,sIB,sCS,sCZ];rfl)))
                   intro wz hwz
                   simp only [zCC,zNR]
                   repeat (first|rw [fin_is]|(rw [fin_cons];intro _ _))
                   rw [fin_nil]
                   try (replace hm:=hm.ext hwz)
                   simp only [Act.put,sIB,sCS,sCZ]
                   go_wp2_with (first|((((with_reducible show qSt);first|((with_reducible apply wq_stv hm);exact rfl;infer_instance;exact rfl;(focus (repeat first|exact .hd|assumption|apply Swap.tl);done);infer_instance;exact rfl;(focus (first|omega|(simp;omega)|(refine ltB ?_;first|omega|(simp;done)|(simp;omega)))))));clear hm;intro w hm))
                   go_roundw
                   case rel=>
                     rw [part_set' hlt rfl]at hm
                     exact⟨k+1,by omega,by go_num,hm⟩
                   case measure=>simp [intOf]<;>omega
                 · obtain rfl:k=8:=by omega
                   rw [part_all,←EC.out]at hm
                   go_wp2_with (first|((with_reducible show qLd);first|((with_reducible apply wq_ldW hm);exact rfl;infer_instance;exact rfl;(focus (repeat first|exact .hd|assumption|apply Has.tl);done);(focus (first|rfl|omega|(simp;done)|(simp;omega)))))|((((with_reducible show qSt);first|((with_reducible apply wq_stW hm);exact rfl;infer_instance;exact rfl;exact rfl;(focus (repeat first|exact .hd|assumption|apply Swap.tl);done);(focus (first|rfl|omega|(simp;done)|(simp;omega)));(focus (first|rfl|omega|(simp;done)|(simp;omega)));(focus (first|exact one_map _|(simp [one8,one32,one64];done))))));clear hm;intro w hm))
                   refine rtO hm rfl rfl (hR:=⟨rfl,hm.x⟩)
end Go.Proofs.YtllnjbiebdkmbaaGreatDoor
namespace Go.Proofs.YtllnjbiebdkmbaaGreatDoor
open Go Go.RowKit
set_option maxRecDepth 100000
def nbk(n:Nat):Nat:=(n-1)/128
theorem nbk_le(n:Nat):128*nbk n≤n:=by unfold nbk;omega
theorem nbk_rest(n:Nat):n-128*nbk n≤128:=by unfold nbk;omega
theorem nbk_lt(n k:Nat)(h:k<nbk n):128<n-128*k:=by unfold nbk at h;omega
theorem nbk_ge(n k:Nat)(h:nbk n≤k):n-128*k≤128:=by unfold nbk at h;omega
theorem nbk_mono {n m:Nat}(h:n≤m):nbk n≤nbk m:=by unfold nbk;omega
def bkAt(l:List Byte)(k:Nat):List Byte:=(l.drop (128*k)).take 128
def chF(h:List (BitVec 64))(l:List Byte):Nat→List (BitVec 64)
 |0=>h
 |k+1=>compL (chF h l k) (mL (bkAt l k)) (BitVec.ofNat 64 (128*(k+1))) 0#64 false
theorem chF_length(h:List (BitVec 64))(l:List Byte)(hh:h.length=8)(k:Nat):(chF h l k).length=8:=by
 cases k with
 |zero=>exact hh
 |succ k=>exact compL_length _ _ _ _ _
theorem bkAt_append(l m:List Byte)(k:Nat)(h:128*(k+1)≤l.length):bkAt (l++m) k=bkAt l k:=by
 unfold bkAt
 rw [List.drop_append_of_le_length (by omega),List.take_append_of_le_length (by simp;omega)]
theorem chF_append(h:List (BitVec 64))(l m:List Byte):∀k,128*k≤l.length→chF h (l++m) k=chF h l k:=by
 intro k
 induction k with
 |zero=>intro _;rfl
 |succ k ih=>intro hk;rw [chF,chF,ih (by omega),bkAt_append l m k hk]
def finL(h:List (BitVec 64))(l:List Byte):List (BitVec 64):=compL (chF h l (nbk l.length)) (mL (l.drop (128*nbk l.length))) (BitVec.ofNat 64 l.length) 0#64 true
theorem finL_length(h:List (BitVec 64))(l:List Byte):(finL h l).length=8:=compL_length _ _ _ _ _
def outL(h:List (BitVec 64)):List Byte:=(h.map fun n=>putL n 8).flatten
theorem flat8:∀(h:List (BitVec 64)),((h.map fun n=>putL n 8).flatten).length=8*h.length
 |[]=>rfl
 |n::h=>by simp [putL_length,flat8 h];omega
theorem outL_length(h:List (BitVec 64)):(outL h).length=8*h.length:=flat8 h
def startL(size key:Nat):List (BitVec 64):=setN firstL 0 (nth firstL 0^^^(((0x01010000#64)^^^(BitVec.ofNat 64 key<<<8))^^^BitVec.ofNat 64 size))
theorem startL_length(size key:Nat):(startL size key).length=8:=by rw [startL,setN_length];rfl
def keyL(key:List Byte):List Byte:=if key.length=0 then []else pad key 128
def sumL(size:Nat)(key b:List Byte):List Byte:=(outL (finL (startL size key.length) (keyL key++b))).take size
theorem sumL_length(size:Nat)(key b:List Byte)(h:size≤64):(sumL size key b).length=size:=by
 rw [sumL,List.length_take,outL_length,finL_length];omega
theorem carry_none(n m:Nat)(h:n+m<18446744073709551616):carryB (BitVec.ofNat 64 n) (BitVec.ofNat 64 m) 0#64=0#64:=by
 have e:((BitVec.ofNat 64 n).toNat+(BitVec.ofNat 64 m).toNat+(0#64).toNat)/2^64=0:=by
   rw [BitVec.toNat_ofNat,BitVec.toNat_ofNat]
   show(n%18446744073709551616+m%18446744073709551616+0)/18446744073709551616=0
   omega
 rw [carryB,e]
theorem ofNat_plus(n m:Nat):BitVec.ofNat 64 n+BitVec.ofNat 64 m=BitVec.ofNat 64 (n+m):=(BitVec.ofNat_add n m).symm
def hashC(h:List (BitVec 64))(n:Nat)(v:Value)(sz:Int):List Value:=h.map v64++([v64 (BitVec.ofNat 64 n),v64 0#64]++([v]++[.int .i64 sz]))
section
variable {h h':List (BitVec 64)} {n n':Nat} {v v':Value} {sz:Int} (hh:h.length=8)
include hh
theorem hashC_length:(hashC h n v sz).length=12:=by simp [hashC,hh]
theorem hashC_h:((hashC h n v sz).drop 0).take 8=h.map v64:=by
 unfold hashC;rw [List.drop_zero,List.take_append_of_le_length (by simp [hh]),List.take_of_length_le (by simp [hh])]
theorem hashC_cnt:((hashC h n v sz).drop 8).take 2=[v64 (BitVec.ofNat 64 n),v64 0#64]:=by
 unfold hashC;rw [List.drop_append,List.drop_eq_nil_of_le (by simp [hh]),List.nil_append,List.length_map,hh];rfl
theorem hashC_rest:(hashC h n v sz)[10]? =some v:=by
 unfold hashC;rw [List.getElem?_append_right (by simp [hh])];simp [hh]
theorem hashC_size:(hashC h n v sz)[11]? =some (.int .i64 sz):=by
 unfold hashC;rw [List.getElem?_append_right (by simp [hh])];simp [hh]
theorem hashC_set_h(k:h'.length=8):(hashC h n v sz).take 0++h'.map v64++(hashC h n v sz).drop (0+8)=hashC h' n v sz:=by
 unfold hashC;rw [List.take_zero,List.nil_append,Nat.zero_add,List.drop_append,List.drop_eq_nil_of_le (by simp [hh]),List.nil_append,List.length_map,hh,Nat.sub_self,List.drop_zero]
theorem hashC_set_cnt:(hashC h n v sz).take 8++[v64 (BitVec.ofNat 64 n'),v64 0#64]++(hashC h n v sz).drop (8+2)=hashC h n' v sz:=by
 unfold hashC;rw [List.take_append_of_le_length (by simp [hh]),List.take_of_length_le (by simp [hh]),List.drop_append,List.drop_eq_nil_of_le (by simp [hh]),List.nil_append,List.length_map,hh,List.append_assoc];rfl
theorem hashC_set_rest:(hashC h n v sz).set 10 v'=hashC h n v' sz:=by
 unfold hashC;rw [List.set_append_right _ _ (by simp [hh]),List.length_map,hh];rfl
end
section
variable {P:Program} {ops:Array Oper} {Q:Exit→Act→World→Prop} {rest:List Oper} {dst:Option Tmp} {ty:TypeId} {pos:String} {aft:Array Edge} {gd:Option (Nat×Bool)} {a:Act} {w0 w:World} {L L':List Blk} {T t:TypeId} {x y:Operand} {g k n:Nat} {cs cs' vs:List Value}
theorem wq_stA(hm:Own w0 w L)(hgd:Region.wanted (Oper.mk dst (.store T x y) ty pos aft gd) (yielded ops a.tmps)=true)(hT:Many P T n)(hx:a.eval x= .pointer (some ⟨g,k,none⟩))(hy:a.eval y= .agg vs.toArray)(hs:Swap L ⟨g,t,cs⟩ ⟨g,t,cs'⟩ L')(he:cs.take k++vs++cs.drop (k+n)=cs')(hl:vs.length=n)(hk:k+n≤cs.length)(h1:∀v∈vs,v.oneCell'=true)
   (hr:∀w',Own w0 w' L'→wpList P ops Q rest (a.put dst undef) w'):wpList P ops Q ((Oper.mk dst (.store T x y) ty pos aft gd)::rest) a w:=wpl_stA hm hgd rfl hx hy hs hl hk h1 he hr
end
def blkN(b:List Byte):List Byte:=over (zer 128) 0 (b.take 128)
theorem blkN_length(b:List Byte):(blkN b).length=128:=by rw [blkN,over_length _ _ _ (by simp;omega)];exact zer_length
theorem gb_blkN(b:List Byte)(hb:b.length≤128)(j:Int):gb (blkN b) j=gb b j:=by
 unfold gb blkN over
 split
 · rename_i h0
   generalize j.toNat=i
   rw [List.take_zero,List.nil_append,List.take_of_length_le hb,Nat.zero_add,List.getD_eq_getElem?_getD,List.getD_eq_getElem?_getD]
   by_cases hi:i<b.length
   · rw [List.getElem?_append_left hi]
   · rw [List.getElem?_append_right (by omega),List.getElem?_drop,List.getElem?_eq_none (l:=b) (by omega)]
     have:(zer (n:=8) 128)[b.length+(i-b.length)]?.getD 0=0:=by
       have:=nth_tab_ge (n:=8) (m:=128) (f:=fun _=>0) (i:=b.length+(i-b.length))
       by_cases hx:b.length+(i-b.length)<128
       · have:=nth_tab (n:=8) (m:=128) (f:=fun _=>0) hx
         simpa [nth,zer]using this
       · have:=this (by omega)
         simpa [nth,zer]using this
     simpa using this
 · rfl
theorem num_blkN(b:List Byte)(hb:b.length≤128):∀(r:Nat)(at_:Int),num (blkN b) at_ r=num b at_ r:=by
 intro r at_
 induction r with
 |zero=>rfl
 |succ r ih=>simp only [num,gb_blkN b hb,ih]
theorem mL_blkN(b:List Byte)(hb:b.length≤128):mL (blkN b)=mL b:=tab_ext fun i _=>num_blkN b hb 8 _
theorem plus_N(n m:Nat)(h:n+m<18446744073709551616)(w:World):Gives Tryz.prog 85 #[.agg #[v64 (BitVec.ofNat 64 n),v64 0#64], .agg #[v64 (BitVec.ofNat 64 m),v64 0#64]] w (.agg #[v64 (BitVec.ofNat 64 (n+m)),v64 0#64]):=by
 have:=oplus_any (BitVec.ofNat 64 n) 0#64 (BitVec.ofNat 64 m) 0#64 w
 rwa [carry_none n m h,ofNat_plus]at this
theorem natv64 {a:Nat}(h:a<18446744073709551616):Value.int .u64 (a:Int)=v64 (BitVec.ofNat 64 a):=by
 have:(BitVec.ofNat 64 a).toNat=a:=by simp;omega
 rw [v64,this]
theorem plus_M(n m:Nat)(h:n+m<18446744073709551616)(w:World):Gives Tryz.prog 85 #[.agg #[v64 (BitVec.ofNat 64 n),v64 0#64], .agg #[.int .u64 (m:Int), .int .u64 0]] w (.agg #[v64 (BitVec.ofNat 64 (n+m)),v64 0#64]):=by
 have:=plus_N n m h w
 rw [natv64 (a:=m) (by omega)];exact this
theorem hblock_any(g:Nat)(h:List (BitVec 64))(n:Nat)(v:Value)(sz:Int)(b:List Byte)(p:Option Addr)(c many:Nat)(last:Bool)(hh:h.length=8)(hb:b.length≤128)(hn:n+many<9223372036854775808)(w0 w:World)(R:List Blk)(hr:∀w' M,Own w0 w' (M++R)→RdB w' p b)(hc:CoefB w0)(hv:v.oneCell'=true)(hm:Own w0 w (⟨g,170,hashC h n v sz⟩::R)):
   Calls Tryz.prog 81 #[.pointer (some ⟨g,0,none⟩), .slice p b.length c, .int .i64 many, .bool last] w fun e w'=>e= .returned (.tuple #[])∧Own w0 w' (⟨g,170,hashC (compL h (mL b) (BitVec.ofNat 64 (n+many)) 0#64 last) (n+many) v sz⟩::R):=by
 have HC:=Lib.hid hc
 have HR:=Lib.hid hr
 have lB:=blkN_length b
 have CC:=Lib.hid fun wx hx=>compress_any h (blkN b) (BitVec.ofNat 64 (n+many)) 0#64 last hh lB wx hx
 rw [mL_blkN b hb]at CC
 have CP:=Lib.hid fun wx=>plus_M n many (by omega) wx
 have lC:(compL h (mL b) (BitVec.ofNat 64 (n+many)) 0#64 last).length=8:=compL_length _ _ _ _ _
 generalize compL h (mL b) (BitVec.ofNat 64 (n+many)) 0#64 last=C at*
 have EB:=Lib.hid (show over (zer 128) 0 (b.take 128)=blkN b from rfl)
 generalize blkN b=B at*
 have HH:=Lib.hid hh
 have LC:=Lib.hid lC
 have lc1:=hashC_length (n:=n) (v:=v) (sz:=sz) hh
 have lc2:=hashC_length (n:=n+many) (v:=v) (sz:=sz) hh
 clear hc hr hh lC
 go_enter Tryz.func81,Tryz.ntmps81
 go_wp2_with (first|((with_reducible show wpList _ _ _ (Oper.mk _ (Op.call _) _ _ _ _::_) _ _);refine wpl_cp8 hm rfl rfl rfl rfl Tryz.underlying22 (by kernel_rfl) (by repeat (first|exact Swap.hd|assumption|apply Swap.tl)) (HR.out _ [_,_] hm) rfl (EB.out) (by simp) ?_;clear hm;intro w hm)|((with_reducible apply wq_ldN hm);exact rfl;infer_instance;exact rfl;(focus (repeat first|exact .hd|assumption|apply Has.tl);done);(exact hashC_cnt HH.out);exact rfl)|(go_at_call 85;(with_reducible refine(CP.out _).mono ?_);rintro e_ w ⟨rfl,hx_⟩;replace hm:=hm.ext hx_;clear hx_)|((with_reducible apply wq_stA hm);exact rfl;infer_instance;exact rfl;exact rfl;(focus (repeat first|exact .hd|assumption|apply Swap.tl);done);(exact hashC_set_cnt HH.out);exact rfl;(exact(by rw [lc1];decide));(exact(by simp [one64]));clear hm;intro w hm)|((first|((with_reducible show qAl);first|((with_reducible apply wq_new hm);exact rfl;infer_instance)));clear hm;intro gx_;intro w hm))
 have HX:=Lib.hid hm.x
 refine region_at 14 (fun w'=>Ext _ w') 37 (by kernel_rfl) (by kernel_rfl) rfl (fun _ _ h k=>h.trans k) (drew_ext _) ?_
 simp only [tSC,List.take_zero,dSC,List.drop_zero,List.map_cons,List.map_nil]
 repeat (first
     |(apply walk_is rfl rfl rfl;(intro wx hwx;(with_reducible apply gq_ldN (hm.ext hwx));infer_instance;exact rfl;(focus (repeat first|exact .hd|assumption|apply Has.tl);done);(exact hashC_h HH.out);(exact(List.length_map ..).trans HH.out));(simp only [Act.put,sIB,sCS,sCZ];rfl))
     |(apply walk_is rfl rfl rfl;(intro wx hwx;(with_reducible apply gq_ldN (hm.ext hwx));infer_instance;exact rfl;(focus (repeat first|exact .hd|assumption|apply Has.tl);done);(exact hashC_cnt HH.out);exact rfl);(simp only [Act.put,sIB,sCS,sCZ];rfl))
     | (apply walk_is rfl rfl rfl
        · (intro wx hwx;first|((with_reducible show gives _ _ _ (Sem.run _ (execOp _ (Oper.mk _ (Op.load _ _) _ _ _ _)) _));first|((with_reducible apply gq_ldW (hm.ext hwx));infer_instance;exact rfl;(focus (repeat first|exact .hd|assumption|apply Has.tl);done);(focus (first|rfl|omega|(simp;done)|(simp;omega)))))|(go_simp;(try go_bits);first|exact gives_same|exact gives_skip|with_reducible exact gives_call (CC.out wx (HC.out.ext (HX.out.trans hwx)))))
        · (simp only [Act.put,sIB,sCS,sCZ];rfl))
     | (apply walk_not rfl rfl rfl
        · (simp only [Act.put,sIB,sCS,sCZ];rfl)))
 intro wz hwz
 simp only [zCC,zNR]
 repeat (first|rw [fin_is]|(rw [fin_cons];intro _ _))
 rw [fin_nil]
 try (replace hm:=hm.ext hwz)
 simp only [Act.put,sIB,sCS,sCZ]
 go_wp2_with (first|((with_reducible apply wq_stA hm);exact rfl;infer_instance;exact rfl;exact rfl;(focus (repeat first|exact .hd|assumption|apply Swap.tl);done);(exact hashC_set_h HH.out LC.out);(exact(List.length_map ..).trans LC.out);(exact(by rw [lc2];decide));(exact(one_map _));clear hm;intro w hm))
 go_end0
 exact⟨rfl,hm.drop⟩
instance elem8:Elem Tryz.prog 5 1 1:=Elem.of (by kernel_rfl) (by omega)
def hashK(h0:List (BitVec 64))(d:List Byte)(k:Nat)(v:Value)(sz:Int):List Value:=hashC (chF h0 d k) (128*k) v sz
def RestO(M:List Blk)(d:List Byte)(k:Nat)(v:Value):Prop:=SlO M 5 1 v (d.length-128*k) ((d.drop (128*k)).map v8)
theorem RestO.rdB {M R N:List Blk}{d:List Byte}{k:Nat}{p:Option Addr}{n c:Nat}{w0 w:World}(h:RestO M d k (.slice p n c))(hm:Own w0 w (N++(M++R))):RdB w p (d.drop (128*k)):=by
 obtain⟨p',c',hv,_,_,h0,hc⟩:=SlO.cells h hm.dropN
 cases hv
 refine⟨fun hl=>h0 (by simpa using hl),fun i hi=> ?_⟩
 obtain⟨a,rfl,ha⟩:=hc i (v8 ((d.drop (128*k)).getD i 0)) (by rw [List.getElem?_map,List.getElem?_eq_getElem hi,List.getD_eq_getElem?_getD,List.getElem?_eq_getElem hi];rfl)
 exact ha
theorem RestO.len {M:List Blk}{d:List Byte}{k:Nat}{p:Option Addr}{n c:Nat}(h:RestO M d k (.slice p n c)):n=d.length-128*k∧n≤c∧c≤maxLen:=by
 rcases h.2 with ⟨h1,h2,_⟩|⟨g,o,cap,cur,h1,_,h2,h3,_⟩
 · cases h1;exact⟨h2.symm,Nat.le_refl _,by simp⟩
 · cases h1;exact⟨rfl,h2,h3⟩
theorem RestO.one {M:List Blk}{d:List Byte}{k:Nat}{v:Value}(h:RestO M d k v):v.oneCell'=true∧v.cells= #[v]:=by
 rcases h.2 with ⟨h1,_⟩|⟨g,o,cap,cur,h1,_⟩<;>subst h1<;>exact⟨rfl,rfl⟩
theorem RestO.slice {M:List Blk}{d:List Byte}{k:Nat}{v:Value}(h:RestO M d k v):∃p n c,v= .slice p n c:=by
 rcases h.2 with ⟨h1,_⟩|⟨g,o,cap,cur,h1,_⟩<;>exact⟨_,_,_,h1⟩
def restLen(g:Nat)(w:World):Nat:=match w.cell? ⟨g,10,none⟩with|some (.slice _ n _)=>n|_=>0
theorem restLen_is {g:Nat}{w:World}{p:Option Addr}{n c:Nat}(h:w.cell? ⟨g,10,none⟩=some (.slice p n c)):restLen g w=n:=by rw [restLen,h]
theorem hashK_rest {h0:List (BitVec 64)}{d:List Byte}{k:Nat}{v:Value}{sz:Int}(hh:h0.length=8):(hashK h0 d k v sz)[10]? =some v:=hashC_rest (chF_length h0 d hh k)
theorem hashK_set {h0:List (BitVec 64)}{d:List Byte}{k:Nat}{v v':Value}{sz:Int}(hh:h0.length=8):(hashK h0 d k v sz).set 10 v'=hashK h0 d k v' sz:=hashC_set_rest (chF_length h0 d hh k)
theorem hashK_length {h0:List (BitVec 64)}{d:List Byte}{k:Nat}{v:Value}{sz:Int}(hh:h0.length=8):(hashK h0 d k v sz).length=12:=hashC_length (chF_length h0 d hh k)
theorem hashK_append {h0:List (BitVec 64)}{d b:List Byte}{k:Nat}{v:Value}{sz:Int}(hk:128*k≤d.length):hashK h0 (d++b) k v sz=hashK h0 d k v sz:=by rw [hashK,chF_append _ _ _ _ hk];rfl
theorem cells_b {w:World}{p:Option Addr}{b:List Byte}(h:RdB w p b):∀(j:Nat)(u:Value),(b.map v8)[j]? =some u→∃a,p=some a∧w.cell? (a.add j)=some u:=by
 intro j u hj
 rw [List.getElem?_map]at hj
 obtain⟨x,hx,rfl⟩:=Option.map_eq_some_iff.1 hj
 obtain⟨hlt,hx'⟩:=List.getElem?_eq_some_iff.1 hx
 obtain⟨a,rfl⟩:=Option.isSome_iff_exists.1 (h.1 (by omega))
 refine⟨a,rfl, ?_⟩
 have:=h.2 j hlt
 simp only [Option.getD_some]at this
 rw [this,List.getD_eq_getElem?_getD,hx];rfl
theorem write_any(g:Nat)(h0:List (BitVec 64))(d:List Byte)(sz:Int)(b:List Byte)(p:Option Addr)(c:Nat)(hh:h0.length=8)(hlen:d.length+b.length≤70368744177664)(w0 w:World)(M R:List Blk)(v:Value)(hc:CoefB w0)(hb:RdB w p b)
   (hm:Own w0 w (⟨g,170,hashK h0 d (nbk d.length) v sz⟩::(M++R))) (hsl:RestO M d (nbk d.length) v):
   Calls Tryz.prog 69 #[.pointer (some ⟨g,0,none⟩), .slice p b.length c] w fun e w'=>e= .returned (.tuple #[])∧∃v' M',Own w0 w' (⟨g,170,hashK h0 (d++b) (nbk (d++b).length) v' sz⟩::(M'++R))∧RestO M' (d++b) (nbk (d++b).length) v':=by
 have HC:=Lib.hid hc
 have HH:=Lib.hid hh
 have HB:=Lib.hid hb
 have HS:=Lib.hid hsl
 have l1:=hashK_length (d:=d) (k:=nbk d.length) (v:=v) (sz:=sz) hh
 have LEN:=Lib.hid hlen
 have k0:=nbk_le d.length
 clear hc hh hb hsl hlen
 go_enter Tryz.func69,Tryz.ntmps69
 have FIT:=Lib.hid (show(d.length-128*nbk d.length+b.length)*(1+1)≤140737488355328 by have:=LEN.out;omega)
 obtain⟨D,hD⟩:∃D,d++b=D:=⟨_,rfl⟩
 have lD:D.length=d.length+b.length:=by rw [←hD,List.length_append]
 have hD46:D.length≤70368744177664:=by have:=LEN.out;omega
 have HD:=Lib.hid hD
 have hk0:nbk d.length≤nbk D.length:=nbk_mono (by omega)
 rw [hD]
 refine wp_scope_goto 0 (fun a_ w_=>∃(k:Nat)(v:Value)(M:List Blk)(u2 u3 u4 u5 u6 u7 u8 u9 u10 u11 u12 u13 u14 u15 u16 u17 u18 u19 u20 u21 u22 u23 u24 u25 u26 u27 u28 u29 u30 u31 u32 u33 u34 u35:Value),a_={tmps:= #[(.pointer (some ⟨g,0,none⟩)),(.slice p b.length c),u2,u3,u4,u5,u6,u7,u8,u9,u10,u11,u12,u13,u14,u15,u16,u17,u18,u19,u20,u21,u22,u23,u24,u25,u26,u27,u28,u29,u30,u31,u32,u33,u34,u35],defers:=[]}∧k≤nbk D.length∧Own w0 w_ (⟨g,170,hashK h0 D k v sz⟩::(M++R))∧RestO M D k v) (fun _ w_=>restLen g w_) rfl ?_ ?_
 · clear hm
   rintro a' w ⟨k,v,M,u2,u3,u4,u5,u6,u7,u8,u9,u10,u11,u12,u13,u14,u15,u16,u17,u18,u19,u20,u21,u22,u23,u24,u25,u26,u27,u28,u29,u30,u31,u32,u33,u34,u35,rfl,⟨hk,hm,hsl⟩⟩
   obtain⟨q,n,cap,rfl⟩:=hsl.slice
   obtain⟨hn,hnc,hcm⟩:=hsl.len
   have hrl:restLen g w=n:=restLen_is (by rw [row_cell (hm.row (by repeat (first|exact Has.hd|assumption|apply Has.tl)))];exact hashK_rest HH.out)
   have HRL:=Lib.hid hrl
   have lk:=nbk_le D.length
   have HK:=Lib.hid hk
   have HL:=Lib.hid lk
   have HN:=Lib.hid hn
   have LD:=Lib.hid lD
   have HS2:=Lib.hid hsl
   have lh:=hashK_length (d:=D) (k:=k) (v:= .slice q n cap) (sz:=sz) HH.out
   clear hrl hk lk hn lD hsl
   by_cases hle:n≤128
   · have hke:k=nbk D.length:=by
       have h1:=HK.out
       have h2:=HN.out
       rcases Nat.lt_or_ge k (nbk D.length)with h|h
       · have:=nbk_lt _ k h;omega
       · omega
     have hd:decide ((n:Int)≤128)=true:=by simp;omega
     have hd2:(n:Int)≤128:=by omega
     go_wp2_with (first|((with_reducible apply wq_ld1 hm);exact rfl;infer_instance;exact rfl;(focus (repeat first|exact .hd|assumption|apply Has.tl);done);(exact hashK_rest HH.out)))
     simp only [Exit.jump]
     refine bodyPost_ret (results_none rfl _ _ _) rfl ?_
     subst hke
     exact⟨rfl,_,_,hm,HS2.out⟩
   · have hd:decide ((n:Int)≤128)=false:=by simp;omega
     have hd2:¬(n:Int)≤128:=by omega
     have hcap:128≤(cap:Int):=by omega
     have hc128:¬cap=128:=by omega
     have lh2:=hashK_length (d:=D) (k:=k+1) (v:= .slice q n cap) (sz:=sz) HH.out
     have hn128:(128:Int)≤(n:Int):=by omega
     have hcap2:(cap:Int)≤9223372036854775807:=by unfold maxLen at hcm;omega
     have lb:(bkAt D k).length=128:=by have:=HN.out;unfold bkAt;rw [List.length_take,List.length_drop];omega
     have hkl:k<nbk D.length:=by
       rcases Nat.lt_or_ge k (nbk D.length)with h|h
       · exact h
       · have:=nbk_ge D.length k h;have:=HN.out;omega
     have CB:=fun wx hx=>hblock_any g (chF h0 D k) (128*k) (.slice q n cap) sz (bkAt D k) q cap 128 false (chF_length h0 D HH.out k) (by omega) (by have:=HL.out;have:=hD46;omega) w0 wx (M++R) (fun w' N h=>(HS2.out.rdB h).take 128) HC.out rfl hx
     rw [lb,show((128:Nat):Int)=128 from rfl]at CB
     have CB2:=Lib.hid CB
     obtain⟨g',o,rfl⟩:∃g' o,q=some ⟨g',o,none⟩:=by
       rcases HS2.out.2 with ⟨h1,h2,_⟩|⟨g',o,cap',cur,h1,_⟩
       · cases h1;omega
       · cases h1;exact⟨_,_,rfl⟩
     clear CB lb
     go_wp2_with (first|((with_reducible apply wq_ld1 hm);exact rfl;infer_instance;exact rfl;(focus (repeat first|exact .hd|assumption|apply Has.tl);done);(exact hashK_rest HH.out))|(go_at_call 81;(with_reducible refine(CB2.out _ hm).mono ?_);clear hm;rintro e_ w ⟨rfl,hm⟩;replace hm:Own w0 w (⟨g,170,hashK h0 D (k+1) (.slice (some ⟨g',o,none⟩) n cap) sz⟩::(M++R)):=hm)|((((with_reducible show qSt);first|((with_reducible apply wq_st1 hm);exact rfl;infer_instance;exact rfl;exact rfl;exact rfl;exact rfl;(focus (repeat first|exact .hd|assumption|apply Swap.tl);done);(focus (first|omega|(simp;omega)|(refine ltB ?_;first|omega|(simp;done)|(simp;omega)))))));clear hm;intro w hm))
     have hm2:Own w0 w (⟨g,170,hashK h0 D (k+1) (.slice (some ⟨g',o+128,none⟩) (n-128) (cap-128)) sz⟩::(M++R)):=by
       rw [hashK_set HH.out]at hm;exact hm
     have hs3:RestO M D (k+1) (.slice (some ⟨g',o+128,none⟩) (n-128) (cap-128)):=by
       have h1:=HN.out
       have h2:SlO M 5 1 (.slice (some ⟨g',o,none⟩) n cap) n ((D.drop (128*k)).map v8):=by have:=HS2.out;unfold RestO at this;rwa [←h1]at this
       have h3:=h2.behind (k:=128) (by omega)
       unfold RestO
       rw [show D.length-128*(k+1)=n-128 from by omega,show 128*(k+1)=128*k+128 from by omega,←List.drop_drop,List.map_drop]
       exact h3
     have hrl:restLen g w=n-128:=restLen_is (by rw [row_cell (hm2.row (by repeat (first|exact Has.hd|assumption|apply Has.tl)))];exact hashK_rest HH.out)
     have HRL2:=Lib.hid hrl
     clear hrl hm
     go_step3
     exact⟨rfl,⟨_,_,_,_,_,_,_,_,_,_,_,_,_,_,_,_,_,_,_,_,_,_,_,_,_,_,_,_,_,_,_,_,_,_,_,_,_,rfl,⟨hkl,hm2,hs3⟩⟩,by rw [HRL.out,HRL2.out];omega⟩
 · intro hp
   go_wp2_with (first|((with_reducible apply wq_ld1 hm);exact rfl;infer_instance;exact rfl;(focus (repeat first|exact .hd|assumption|apply Has.tl);done);(exact hashK_rest HH.out))|((with_reducible show wpList _ _ _ (Oper.mk _ (Op.call _) _ _ _ _::_) _ _);refine wplO_app (M:=M) (R:=⟨g,170,hashK h0 d (nbk d.length) v sz⟩::R) (ds:=b.map v8) (hm.perm (List.perm_middle.symm)) HS.out rfl rfl rfl rfl Tryz.underlying22 (by simp) (cells_b HB.out) (one_map _) FIT.out ?_;clear hm;intro v1 w M1 hm hs1;obtain⟨p_v1,c_v1,rfl⟩:=hs1.form;replace hm:=hm.perm (List.perm_middle))|((((with_reducible show qSt);first|((with_reducible apply wq_st1 hm);exact rfl;infer_instance;exact rfl;exact rfl;exact rfl;exact rfl;(focus (repeat first|exact .hd|assumption|apply Swap.tl);done);(focus (first|omega|(simp;omega)|(refine ltB ?_;first|omega|(simp;done)|(simp;omega)))))));clear hm;intro w hm))
   have hm2:Own w0 w (⟨g,170,hashK h0 d (nbk d.length) (.slice p_v1 (d.length-128*nbk d.length+b.length) c_v1) sz⟩::(M1++R)):=by
     rw [hashK_set HH.out]at hm;exact hm
   rw [←hashK_append (b:=b) k0,HD.out]at hm2
   have hs2:RestO M1 D (nbk d.length) (.slice p_v1 (d.length-128*nbk d.length+b.length) c_v1):=by
     unfold RestO
     rw [←HD.out,List.drop_append_of_le_length k0,List.map_append,List.length_append,show d.length+b.length-128*nbk d.length=d.length-128*nbk d.length+b.length from by omega]
     exact hs1
   go_step3
   rename_i hK
   exact hK _ _ (hp _ _ ⟨_,_,_,_,_,_,_,_,_,_,_,_,_,_,_,_,_,_,_,_,_,_,_,_,_,_,_,_,_,_,_,_,_,_,_,_,_,rfl,⟨hk0,hm2,hs2⟩⟩)
end Go.Proofs.YtllnjbiebdkmbaaGreatDoor
