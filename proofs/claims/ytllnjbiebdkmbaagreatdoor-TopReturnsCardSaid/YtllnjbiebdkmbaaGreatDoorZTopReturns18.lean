/-
  Texts of the program, walked, and plain ones. Conditions: those written in each theorem.
-/
import Derived.Test.YtllnjbiebdkmbaaGreatDoorZTopReturns0
import Derived.Test.YtllnjbiebdkmbaaGreatDoorZTopReturns17
import Derived.Test.YtllnjbiebdkmbaaGreatDoorZTopReturns10
import Derived.Test.YtllnjbiebdkmbaaGreatDoorZTopReturns11
import Derived.Test.YtllnjbiebdkmbaaGreatDoorZTopReturns13
import Derived.Test.YtllnjbiebdkmbaaGreatDoorZTopReturns14
import Derived.Lib.AppendZerosOnto
import Derived.Test.YtllnjbiebdkmbaaGreatDoorZTopReturns8
set_option linter.unusedSimpArgs false
set_option linter.unusedVariables false
set_option maxHeartbeats 16000000
namespace Go.Proofs.YtllnjbiebdkmbaaGreatDoor
open Go Go.RowKit
set_option maxRecDepth 100000
def clA(key:List Byte):Nat→List Byte
 |0=>key
 |k+1=>setN (clA key k) (3+4*k) (nth (clA key k) (3+4*k)&&&15#8)
def clB(key:List Byte):Nat→List Byte
 |0=>clA key 4
 |k+1=>setN (clB key k) (4+4*k) (nth (clB key k) (4+4*k)&&&252#8)
theorem clA_length(key:List Byte)(k:Nat):(clA key k).length=key.length:=by
 induction k with
 |zero=>rfl
 |succ k ih=>rw [clA,setN_length,ih]
theorem clB_length(key:List Byte)(k:Nat):(clB key k).length=key.length:=by
 induction k with
 |zero=>exact clA_length key 4
 |succ k ih=>rw [clB,setN_length,ih]
theorem clamp_any(key:List Byte)(hk:key.length=16)(w0:World):Gives Tryz.prog 143 #[A8 key] w0 (A8 (clB key 3)):=by
 unfold Gives
 have hm:=Own.start w0
 have LA:=Lib.hid fun k=>(show(clA key k).length=16 from by rw [clA_length];exact hk)
 have LB:=Lib.hid fun k=>(show(clB key k).length=16 from by rw [clB_length];exact hk)
 have A0:Hid (clA key 0=key):=Lib.hid rfl
 have B0:Hid (clB key 0=clA key 4):=Lib.hid rfl
 have h1:=Nat.le_of_eq hk
 have h2:=Nat.le_of_eq hk.symm
 clear hk
 go_enter Tryz.func143,Tryz.ntmps143
 go_wp2_with (first|((first|((with_reducible show qAl);first|((with_reducible apply wq_new hm);exact rfl;infer_instance))|((with_reducible show qBx);first|((with_reducible apply wq_boxN hm);exact rfl;exact rfl)));clear hm;(first|(have hx_:=g1;clear hx_;(first|(have hx_:=g2;clear hx_;intro gx_)|intro g2))|intro g1);intro w hm))
 go_loopw [3] (fun i wr=>∃k:Nat,k≤4∧i= .int .i64 ((3+4*k:Nat):Int)∧Own w0 wr [⟨g2,68,(zer 16).map v8⟩,⟨g1,68,(clA key k).map v8⟩]) (fun i _=>20-(intOf i).toNat)
 case atStart=>exact⟨0,by omega,rfl,by rw [A0.out];exact hm⟩
 case round=>
   obtain⟨k,hk,rfl,hm⟩:=hrel
   have lV:=LA.out k
   by_cases hlt:k<4
   · have hd:decide (((3+4*k:Nat):Int)<16)=true:=decide_eq_true (by omega)
     have hd2:((3+4*k:Nat):Int)<16:=by omega
     have EK:=Lib.hid (show clA key (k+1)=setN (clA key k) (3+4*k) (nth (clA key k) (3+4*k)&&&15#8)from rfl)
     generalize clA key k=V at*
     obtain⟨i,hi⟩:∃i,i=3+4*k:=⟨_,rfl⟩
     have HI:=Lib.hid hi
     rw [←hi]at hd hd2 EK⊢
     have hi16:i<16:=by omega
     clear hi
     go_wp2_with (first|((with_reducible show qLd);first|((with_reducible apply wq_ldv hm);exact rfl;infer_instance;exact rfl;(focus (repeat first|exact .hd|assumption|apply Has.tl);done);(focus (first|omega|(simp;omega)|(refine ltB ?_;first|omega|(simp;done)|(simp;omega))))))|((((with_reducible show qSt);first|((with_reducible apply wq_stv hm);exact rfl;infer_instance;exact rfl;(focus (repeat first|exact .hd|assumption|apply Swap.tl);done);infer_instance;exact rfl;(focus (first|omega|(simp;omega)|(refine ltB ?_;first|omega|(simp;done)|(simp;omega)))))));clear hm;intro w hm))
     go_roundw
     case rel=>exact⟨k+1,by omega,by have:=HI.out;simp only [Value.int.injEq,true_and];omega,by rw [EK.out];exact hm⟩
     case measure=>simp [intOf]<;>omega
   · obtain rfl:k=4:=by omega
     rw [←B0.out]at hm
     go_wp2_with fail
     rw [show((3+4*4:Nat):Int)=19 from rfl]
     go_loopw [4] (fun i wr=>∃k:Nat,k≤3∧i= .int .i64 ((4+4*k:Nat):Int)∧Own w0 wr [⟨g2,68,(zer 16).map v8⟩,⟨g1,68,(clB key k).map v8⟩]) (fun i _=>20-(intOf i).toNat)
     case atStart=>exact⟨0,by omega,rfl,hm⟩
     case round=>
       obtain⟨k,hk,rfl,hm⟩:=hrel
       have lW:=LB.out k
       by_cases hlt:k<3
       · have hd:decide (((4+4*k:Nat):Int)<16)=true:=decide_eq_true (by omega)
         have hd2:((4+4*k:Nat):Int)<16:=by omega
         have EK:=Lib.hid (show clB key (k+1)=setN (clB key k) (4+4*k) (nth (clB key k) (4+4*k)&&&252#8)from rfl)
         generalize clB key k=V at*
         obtain⟨i,hi⟩:∃i,i=4+4*k:=⟨_,rfl⟩
         have HI:=Lib.hid hi
         rw [←hi]at hd hd2 EK⊢
         have hi16:i<16:=by omega
         clear hi
         go_wp2_with (first|((with_reducible show qLd);first|((with_reducible apply wq_ldv hm);exact rfl;infer_instance;exact rfl;(focus (repeat first|exact .hd|assumption|apply Has.tl);done);(focus (first|omega|(simp;omega)|(refine ltB ?_;first|omega|(simp;done)|(simp;omega))))))|((((with_reducible show qSt);first|((with_reducible apply wq_stv hm);exact rfl;infer_instance;exact rfl;(focus (repeat first|exact .hd|assumption|apply Swap.tl);done);infer_instance;exact rfl;(focus (first|omega|(simp;omega)|(refine ltB ?_;first|omega|(simp;done)|(simp;omega)))))));clear hm;intro w hm))
         go_roundw
         case rel=>exact⟨k+1,by omega,by have:=HI.out;simp only [Value.int.injEq,true_and];omega,by rw [EK.out];exact hm⟩
         case measure=>simp [intOf]<;>omega
       · obtain rfl:k=3:=by omega
         have l1:=Nat.le_of_eq lW
         have l2:=Nat.le_of_eq lW.symm
         go_wp2_with (first|((with_reducible show qLd);first|((with_reducible apply wq_ldW hm);exact rfl;infer_instance;exact rfl;(focus (repeat first|exact .hd|assumption|apply Has.tl);done);(focus (first|rfl|omega|(simp;done)|(simp;omega)))))|((((with_reducible show qSt);first|((with_reducible apply wq_stW hm);exact rfl;infer_instance;exact rfl;exact rfl;(focus (repeat first|exact .hd|assumption|apply Swap.tl);done);(focus (first|rfl|omega|(simp;done)|(simp;omega)));(focus (first|rfl|omega|(simp;done)|(simp;omega)));(focus (first|exact one_map _|(simp [one8,one32,one64];done))))));clear hm;intro w hm))
         refine rtO hm rfl rfl (hR:=⟨rfl,hm.x⟩)
def psC(by_ v:List (BitVec 32))(rest:List Byte)(many:Nat):List Value:=by_.map v32++(v.map v32++(rest.map v8++[.int .i64 (many:Int)]))
theorem psC_by(b v:List (BitVec 32))(r:List Byte)(m:Nat)(hb:b.length=5):((psC b v r m).drop 0).take 5=b.map v32:=by
 rw [List.drop_zero,psC,List.take_append_of_le_length (by rw [List.length_map];omega),List.take_of_length_le (by rw [List.length_map];omega)]
theorem psC_v(b v:List (BitVec 32))(r:List Byte)(m:Nat)(hb:b.length=5)(hv:v.length=5):((psC b v r m).drop 5).take 5=v.map v32:=by
 rw [psC,List.drop_append_of_le_length (by rw [List.length_map];omega),List.drop_of_length_le (by rw [List.length_map];omega),List.nil_append,List.take_append_of_le_length (by rw [List.length_map];omega),List.take_of_length_le (by rw [List.length_map];omega)]
theorem psC_length(b v:List (BitVec 32))(r:List Byte)(m:Nat)(hb:b.length=5)(hv:v.length=5)(hr:r.length=16):(psC b v r m).length=27:=by simp [psC,hb,hv,hr]
theorem psC_setv(b v x:List (BitVec 32))(r:List Byte)(m:Nat)(hb:b.length=5)(hv:v.length=5):(psC b v r m).take 5++x.map v32++(psC b v r m).drop (5+5)=psC b x r m:=by
 have e:(psC b v r m).drop (5+5)=r.map v8++[.int .i64 (m:Int)]:=by
   rw [psC,List.drop_append,List.drop_of_length_le (by rw [List.length_map];omega),List.nil_append,List.length_map,hb,show 5+5-5=5 from rfl,List.drop_append,List.drop_of_length_le (by rw [List.length_map];omega),List.nil_append,List.length_map,hv,Nat.sub_self,List.drop_zero]
 rw [e,psC,List.take_append_of_le_length (by rw [List.length_map];omega),List.take_of_length_le (by rw [List.length_map];omega),psC,List.append_assoc]
theorem psC_many(b v:List (BitVec 32))(r:List Byte)(m:Nat)(hb:b.length=5)(hv:v.length=5)(hr:r.length=16):(psC b v r m)[26]? =some (.int .i64 (m:Int)):=by
 rw [psC,List.getElem?_append_right (by rw [List.length_map];omega),List.getElem?_append_right (by rw [List.length_map,List.length_map];omega),List.getElem?_append_right (by simp only [List.length_map];omega)]
 simp only [List.length_map,hb,hv,hr];rfl
theorem ppart_any(g:Nat)(b v n:List (BitVec 32))(r:List Byte)(m:Nat)(hb:b.length=5)(hv:v.length=5)(hr:r.length=16)(hn:n.length=5)(w0 w:World)(R:List Blk)(hm:Own w0 w (⟨g,231,psC b v r m⟩::R)):
   Calls Tryz.prog 144 #[.pointer (some ⟨g,0,none⟩),P32 n] w fun e w'=>e= .returned (.tuple #[])∧Own w0 w' (⟨g,231,psC b (timL (plsL v n) b) r m⟩::R):=by
 have C1:=Lib.hid fun w=>pplus_any v n hv hn w
 have C2:=Lib.hid fun w=>ptimes_any (plsL v n) b (plsL_length v n) hb w
 have EB:=Lib.hid (psC_by b v r m hb)
 have EV:=Lib.hid (psC_v b v r m hb hv)
 have ES:=Lib.hid (psC_setv b v (timL (plsL v n) b) r m hb hv)
 have LC:=Lib.hid (psC_length b v r m hb hv hr)
 have LT:=Lib.hid (timL_length (plsL v n) b)
 have HB:=Lib.hid hb
 have HV:=Lib.hid hv
 have h1:=Nat.le_of_eq hn
 have h2:=Nat.le_of_eq hn.symm
 generalize timL (plsL v n) b=T at*
 generalize plsL v n=P at*
 generalize psC b v r m=PC at*
 generalize psC b T r m=PD at*
 clear hb hv hr hn
 go_enter Tryz.func144,Tryz.ntmps144
 go_wp2_with (first|((first|((with_reducible show qBx);first|((with_reducible apply wq_boxN hm);exact rfl;exact rfl)));clear hm;intro gx_;intro w hm))
 refine region_at 14 (fun w'=>Ext _ w') 18 (by kernel_rfl) (by kernel_rfl) rfl (fun _ _ h k=>h.trans k) (drew_ext _) ?_
 simp only [tSC,List.take_zero,dSC,List.drop_zero,List.map_cons,List.map_nil]
 repeat (first
     |(apply walk_is rfl rfl rfl;(intro wx hwx;(with_reducible apply gq_ldN (hm.ext hwx));infer_instance;exact rfl;(focus (repeat first|exact .hd|assumption|apply Has.tl);done);(exact EV.out);(exact(by rw [List.length_map];exact HV.out)));(simp only [Act.put,sIB,sCS,sCZ];rfl))
     |(apply walk_is rfl rfl rfl;(intro wx hwx;(with_reducible apply gq_ldN (hm.ext hwx));infer_instance;exact rfl;(focus (repeat first|exact .hd|assumption|apply Has.tl);done);(exact EB.out);(exact(by rw [List.length_map];exact HB.out)));(simp only [Act.put,sIB,sCS,sCZ];rfl))
     | (apply walk_is rfl rfl rfl
        · (intro wx hwx;first|((with_reducible show gives _ _ _ (Sem.run _ (execOp _ (Oper.mk _ (Op.load _ _) _ _ _ _)) _));first|((with_reducible apply gq_ldW (hm.ext hwx));infer_instance;exact rfl;(focus (repeat first|exact .hd|assumption|apply Has.tl);done);(focus (first|rfl|omega|(simp;done)|(simp;omega)))))|(go_simp;(try go_bits);first|exact gives_same|exact gives_skip|with_reducible exact gives_call (C1.out wx)|with_reducible exact gives_call (C2.out wx)))
        · (simp only [Act.put,sIB,sCS,sCZ];rfl))
     | (apply walk_not rfl rfl rfl
        · (simp only [Act.put,sIB,sCS,sCZ];rfl)))
 intro wz hwz
 simp only [zCC,zNR]
 repeat (first|rw [fin_is]|(rw [fin_cons];intro _ _))
 rw [fin_nil]
 try (replace hm:=hm.ext hwz)
 simp only [Act.put,sIB,sCS,sCZ]
 go_wp2_with (first|((with_reducible apply wq_stA hm);exact rfl;infer_instance;exact rfl;exact rfl;(focus (repeat first|exact .hd|assumption|apply Swap.tl);done);(exact ES.out);(exact(by rw [List.length_map];exact LT.out));(exact(by rw [LC.out];omega));(exact(one_map _));clear hm;intro w hm))
 go_end0
 exact⟨rfl,hm.drop⟩
theorem list5(F:List (BitVec 32))(h:F.length=5):∃a b c d e,F=[a,b,c,d,e]:=by
 match F,h with
 |[a,b,c,d,e],_=>exact⟨a,b,c,d,e,rfl⟩
theorem pnew_any(key:List Byte)(hk:key.length=16)(w0:World):Calls Tryz.prog 133 #[A8 key] w0 fun e w'=>∃g,e= .returned (.pointer (some ⟨g,0,none⟩))∧w0.heap.size≤g∧Row w' g 231 (psC (ofL (clB key 3) 0#32) (zer 5) (zer 16) 0)∧Ext w0 w':=by
 have hm:=Own.start w0
 have C1:=Lib.hid fun w=>clamp_any key hk w
 have C2:=Lib.hid fun w=>(show Gives Tryz.prog 142 #[A8 (clB key 3), .int .u32 0] w (P32 (ofL (clB key 3) 0#32))from pof_any _ (by rw [clB_length];exact hk) 0#32 w)
 have BD:=Lib.hid fun w=>(show(Instr.build 231 #[(0,P32 (ofL (clB key 3) 0#32))]).run Tryz.prog w= .ok (.agg (psC (ofL (clB key 3) 0#32) (zer 5) (zer 16) 0).toArray) w from by
   obtain⟨a,b,c,d,e,he⟩:=list5 (ofL (clB key 3) 0#32) (ofL_length _ _)
   rw [he];kernel_rfl)
 generalize psC (ofL (clB key 3) 0#32) (zer 5) (zer 16) 0=PC at*
 generalize ofL (clB key 3) 0#32=B at*
 generalize clB key 3=K at*
 have h1:=Nat.le_of_eq hk
 have h2:=Nat.le_of_eq hk.symm
 clear hk
 go_enter Tryz.func133,Tryz.ntmps133
 go_wp2_with (first|(go_at_call 143;(with_reducible refine(C1.out _).mono ?_);rintro e_ w ⟨rfl,hx_⟩;replace hm:=hm.ext hx_;clear hx_)|(go_at_call 142;(with_reducible refine(C2.out _).mono ?_);rintro e_ w ⟨rfl,hx_⟩;replace hm:=hm.ext hx_;clear hx_)|((with_reducible apply wq_build1 BD.out);exact rfl;exact rfl)|((with_reducible show qLd);first|((with_reducible apply wq_ldW hm);exact rfl;infer_instance;exact rfl;(focus (repeat first|exact .hd|assumption|apply Has.tl);done);(focus (first|rfl|omega|(simp;done)|(simp;omega)))))|((first|((with_reducible show qBx);first|((with_reducible apply wq_boxN hm);exact rfl;exact rfl)));clear hm;(first|(have hx_:=g1;clear hx_;(first|(have hx_:=g2;clear hx_;intro gx_)|intro g2))|intro g1);intro w hm))
 go_ret
 exact⟨g2,rfl,(show w0.heap.size≤(⟨g2,231,PC⟩:Blk).g from hm.base .hd),hm.row .hd,hm.x⟩
theorem pvalue_any(g:Nat)(b v:List (BitVec 32))(r:List Byte)(hb:b.length=5)(hv:v.length=5)(hr:r.length=16)(w0:World)(h:Row w0 g 231 (psC b v r 0)):Gives Tryz.prog 150 #[.pointer (some ⟨g,0,none⟩)] w0 (P32 v):=by
 unfold Gives
 have hm:=Own.start w0
 have HR:=Lib.hid fun w (hx:Ext w0 w)=>row_ext h hx
 have EM:=Lib.hid (psC_many b v r 0 hb hv hr)
 have EV:=Lib.hid (psC_v b v r 0 hb hv)
 have HV:=Lib.hid hv
 have h1:=Nat.le_of_eq hv
 have h2:=Nat.le_of_eq hv.symm
 generalize psC b v r 0=PC at*
 clear h hv
 go_enter Tryz.func150,Tryz.ntmps150
 go_wp2_with (first|((with_reducible apply wq_row1 (HR.out _ hm.x));exact rfl;infer_instance;exact rfl;exact EM.out)|((with_reducible apply wq_rowN (HR.out _ hm.x));exact rfl;infer_instance;exact rfl;exact EV.out;exact(by rw [List.length_map];exact HV.out))|((((with_reducible show qSt);first|((with_reducible apply wq_stW hm);exact rfl;infer_instance;exact rfl;exact rfl;(focus (repeat first|exact .hd|assumption|apply Swap.tl);done);(focus (first|rfl|omega|(simp;done)|(simp;omega)));(focus (first|rfl|omega|(simp;done)|(simp;omega)));(focus (first|exact one_map _|(simp [one8,one32,one64];done))))));clear hm;intro w hm)|((first|((with_reducible show qAl);first|((with_reducible apply wq_new hm);exact rfl;infer_instance)));clear hm;intro gx_;intro w hm))
 refine rtO hm rfl rfl (hR:=⟨rfl,hm.x⟩)
theorem ptag_any(g:Nat)(b v:List (BitVec 32))(r:List Byte)(hb:b.length=5)(hv:v.length=5)(hr:r.length=16)(w0:World)(h:Row w0 g 231 (psC b v r 0)):Gives Tryz.prog 145 #[.pointer (some ⟨g,0,none⟩)] w0 (A8 (lowB v)):=by
 unfold Gives
 have hm:=Own.start w0
 have C1:=Lib.hid fun w (hx:Ext w0 w)=>pvalue_any g b v r hb hv hr w (row_ext h hx)
 have C2:=Lib.hid fun w=>plow_any v hv w
 have lB:=lowB_length v
 generalize lowB v=F at*
 have h1:=Nat.le_of_eq lB
 have h2:=Nat.le_of_eq lB.symm
 clear h
 go_enter Tryz.func145,Tryz.ntmps145
 go_wp2_with (first|(go_at_call 150;(with_reducible refine(C1.out _ hm.x).mono ?_);rintro e_ w ⟨rfl,hx_⟩;replace hm:=hm.ext hx_;clear hx_)|(go_at_call 151;(with_reducible refine(C2.out _).mono ?_);rintro e_ w ⟨rfl,hx_⟩;replace hm:=hm.ext hx_;clear hx_)|((((with_reducible show qSt);first|((with_reducible apply wq_stW hm);exact rfl;infer_instance;exact rfl;exact rfl;(focus (repeat first|exact .hd|assumption|apply Swap.tl);done);(focus (first|rfl|omega|(simp;done)|(simp;omega)));(focus (first|rfl|omega|(simp;done)|(simp;omega)));(focus (first|exact one_map _|(simp [one8,one32,one64];done))))));clear hm;intro w hm)|((first|((with_reducible show qAl);first|((with_reducible apply wq_new hm);exact rfl;infer_instance)));clear hm;intro gx_;intro w hm))
 refine rtO hm rfl rfl (hR:=⟨rfl,hm.x⟩)
theorem known12(w:World):Calls Tryz.prog 71 #[.int .i64 12] w fun e w'=>e= .returned (.int .i64 0)∧w=w':=by
 go_enter Tryz.func71,Tryz.ntmps71
 go_wp2
 go_ret
 exact⟨rfl,rfl⟩
theorem shape32(w:World):Calls Tryz.prog 58 #[.int .i64 32] w fun e w'=>e= .returned (.tuple #[.int .i64 8, .bool true, .int .i64 0])∧w=w':=by
 go_enter Tryz.func58,Tryz.ntmps58
 go_wp2
 go_ret3
 exact⟨rfl,rfl⟩
theorem shape24(w:World):Calls Tryz.prog 58 #[.int .i64 24] w fun e w'=>e= .returned (.tuple #[.int .i64 6, .bool false, .int .i64 0])∧w=w':=by
 go_enter Tryz.func58,Tryz.ntmps58
 go_wp2
 go_ret3
 exact⟨rfl,rfl⟩
theorem shape16(w:World):Calls Tryz.prog 58 #[.int .i64 16] w fun e w'=>e= .returned (.tuple #[.int .i64 4, .bool false, .int .i64 0])∧w=w':=by
 go_enter Tryz.func58,Tryz.ntmps58
 go_wp2
 go_ret3
 exact⟨rfl,rfl⟩
def proN(a k b l:BitVec 32):BitVec 64:=(a+k).setWidth 64*(b+l).setWidth 64
theorem product_any(a k b l:BitVec 32)(w:World):Calls Tryz.prog 146 #[v32 a,v32 k,v32 b,v32 l] w fun e w'=>e= .returned (v64 (proN a k b l))∧w=w':=by
 go_enter Tryz.func146,Tryz.ntmps146
 go_wp2
 go_ret
 exact⟨rfl,rfl⟩
theorem anumber_any(g:Nat)(b v:List (BitVec 32))(r:List Byte)(hb:b.length=5)(hv:v.length=5)(hr:r.length=16)(w0:World)(h:Row w0 g 231 (psC b v r 0)):Gives Tryz.prog 135 #[.pointer (some ⟨g,0,none⟩)] w0 (WV (num (lowB v) 0 8) (num (lowB v) 8 8)):=by
 unfold Gives
 have hm:=Own.start w0
 have C1:=Lib.hid fun w (hx:Ext w0 w)=>ptag_any g b v r hb hv hr w (row_ext h hx)
 have lB:=lowB_length v
 have L1:=Lib.hid fun (w:World)(p:Option Addr)(c:Nat)(hr:RdB w p (lowB v))=>show Gives Tryz.prog 125 #[.slice p 16 c] w (WV (num (lowB v) 0 8) (num (lowB v) 8 8))from by
   have:=load_any (lowB v) p c w hr (by omega);rwa [lB]at this
 generalize lowB v=F at*
 generalize num F 0 8=lo at*
 generalize num F 8 8=hi at*
 have h1:=Nat.le_of_eq lB
 have h2:=Nat.le_of_eq lB.symm
 clear h
 go_enter Tryz.func135,Tryz.ntmps135
 go_wp2_with (first|(go_at_call 145;(with_reducible refine(C1.out _ hm.x).mono ?_);rintro e_ w ⟨rfl,hx_⟩;replace hm:=hm.ext hx_;clear hx_)|(go_at_call 125;(with_reducible refine(L1.out _ _ _ (hm.rdB (g:=g2) (l:=F) (by repeat (first|exact Has.hd|assumption|apply Has.tl)))).mono ?_);rintro e_ w ⟨rfl,hx_⟩;replace hm:=hm.ext hx_;clear hx_)|((((with_reducible show qSt);first|((with_reducible apply wq_stW hm);exact rfl;infer_instance;exact rfl;exact rfl;(focus (repeat first|exact .hd|assumption|apply Swap.tl);done);(focus (first|rfl|omega|(simp;done)|(simp;omega)));(focus (first|rfl|omega|(simp;done)|(simp;omega)));(focus (first|exact one_map _|(simp [one8,one32,one64];done))))));clear hm;intro w hm)|((first|((with_reducible show qAl);first|((with_reducible apply wq_new hm);exact rfl;infer_instance)));clear hm;(first|(have hx_:=g1;clear hx_;(first|(have hx_:=g2;clear hx_;intro gx_)|intro g2))|intro g1);intro w hm))
 refine rtO hm rfl rfl (hR:=⟨rfl,hm.x⟩)
def xbL(s:List Byte)(i:BitVec 64):List Byte:=part 16 8 (fun j=>nth s j^^^nth (putL i 8) j) (nth s)
theorem xbL_length(s:List Byte)(i:BitVec 64):(xbL s i).length=16:=part_length
theorem xblock_any(g:Nat)(k0 kl:List Byte)(ks:List (List Byte))(s:List Byte)(hs:s.length=16)(i:BitVec 64)(w0:World)(h:AesR w0 g k0 ks kl):Gives Tryz.prog 166 #[.pointer (some ⟨g,0,none⟩),A8 s,v64 i] w0 (A8 (aesE k0 ks kl (xbL s i))):=by
 unfold Gives
 have hm:=Own.start w0
 have C1:=Lib.hid fun w (hx:Ext w0 w)=>encrypt_any g k0 kl ks (xbL s i) (xbL_length s i) w (h.ext hx)
 have PL:=Lib.hid fun w=>putlong_any' i w
 have XP:Hid (xbL s i=part 16 8 (fun j=>nth s j^^^nth (putL i 8) j) (nth s)):=Lib.hid rfl
 have XZ:Hid (s=part 16 0 (fun j=>nth s j^^^nth (putL i 8) j) (nth s)):=Lib.hid (part_start hs)
 have lP:(putL i 8).length=8:=putL_length _ _
 have LP:=Lib.hid lP
 have lX:=xbL_length s i
 have lE:=aesE_length k0 ks kl (xbL s i)
 generalize aesE k0 ks kl (xbL s i)=E at*
 generalize xbL s i=X at*
 have IX:=fun (j:Nat)(hj:j<8)(w:World)=>run_index_v (P:=Tryz.prog) (T:=94) (e:=5) (f:=v8) (by kernel_rfl) (putL i 8) lP j hj w
 have IX:=Lib.hid IX
 generalize putL i 8=P at*
 have h1:=Nat.le_of_eq hs
 have h2:=Nat.le_of_eq hs.symm
 have h3:=Nat.le_of_eq lX
 have h4:=Nat.le_of_eq lX.symm
 have h5:=Nat.le_of_eq lE
 have h6:=Nat.le_of_eq lE.symm
 clear h hs
 go_enter Tryz.func166,Tryz.ntmps166
 go_wp2_with (first|(go_at_call 43;(with_reducible refine(PL.out _).mono ?_);rintro e_ w ⟨rfl,hx_⟩;replace hm:=hm.ext hx_;clear hx_)|((first|((with_reducible show qAl);first|((with_reducible apply wq_new hm);exact rfl;infer_instance))|((with_reducible show qBx);first|((with_reducible apply wq_boxN hm);exact rfl;exact rfl)));clear hm;(first|(have hx_:=g1;clear hx_;(first|(have hx_:=g2;clear hx_;intro gx_)|intro g2))|intro g1);intro w hm))
 go_loopw [11] (fun i_ wr=>∃k:Nat,k≤8∧i_= .int .i64 k∧Own w0 wr [⟨g2,68,(zer 16).map v8⟩,⟨g1,68,(part 16 k (fun j=>nth s j^^^nth P j) (nth s)).map v8⟩]) (fun i_ _=>8-(intOf i_).toNat)
 case atStart=>exact⟨0,by omega,rfl,by rw [←XZ.out];exact hm⟩
 case round=>
   obtain⟨k,hk,rfl,hm⟩:=hrel
   by_cases hlt:k<8
   · have hd:decide ((k:Int)<8)=true:=decide_eq_true (by omega)
     have hd2:(k:Int)<8:=by omega
     have ix:=fun w=>IX.out k hlt w
     have PK:Hid (setN (part 16 k (fun j=>nth s j^^^nth P j) (nth s)) k (nth (part 16 k (fun j=>nth s j^^^nth P j) (nth s)) k^^^nth P k)=part 16 (k+1) (fun j=>nth s j^^^nth P j) (nth s)):=Lib.hid (by
       rw [nth_part_ge (by omega) (Nat.le_refl _)];exact part_set' (by omega) rfl)
     have lV:(part 16 k (fun j=>nth s j^^^nth P j) (nth s)).length=16:=part_length
     generalize part 16 k (fun j=>nth s j^^^nth P j) (nth s)=V at*
     go_wp2_with (first|((with_reducible show qLd);first|((with_reducible apply wq_ldv hm);exact rfl;infer_instance;exact rfl;(focus (repeat first|exact .hd|assumption|apply Has.tl);done);(focus (first|omega|(simp;omega)|(refine ltB ?_;first|omega|(simp;done)|(simp;omega))))))|((((with_reducible show qSt);first|((with_reducible apply wq_stv hm);exact rfl;infer_instance;exact rfl;(focus (repeat first|exact .hd|assumption|apply Swap.tl);done);infer_instance;exact rfl;(focus (first|omega|(simp;omega)|(refine ltB ?_;first|omega|(simp;done)|(simp;omega)))))));clear hm;intro w hm))
     go_roundw
     case rel=>
       rw [PK.out]at hm
       exact⟨k+1,by omega,by go_num,hm⟩
     case measure=>simp [intOf]<;>omega
   · obtain rfl:k=8:=by omega
     have hd:decide (((8:Nat):Int)<8)=false:=decide_eq_false (by omega)
     rw [←XP.out]at hm
     go_wp2_with (first|(go_at_call 52;(with_reducible refine(C1.out _ hm.x).mono ?_);rintro e_ w ⟨rfl,hx_⟩;replace hm:=hm.ext hx_;clear hx_)|((with_reducible show qLd);first|((with_reducible apply wq_ldW hm);exact rfl;infer_instance;exact rfl;(focus (repeat first|exact .hd|assumption|apply Has.tl);done);(focus (first|rfl|omega|(simp;done)|(simp;omega)))))|((((with_reducible show qSt);first|((with_reducible apply wq_stW hm);exact rfl;infer_instance;exact rfl;exact rfl;(focus (repeat first|exact .hd|assumption|apply Swap.tl);done);(focus (first|rfl|omega|(simp;done)|(simp;omega)));(focus (first|rfl|omega|(simp;done)|(simp;omega)));(focus (first|exact one_map _|(simp [one8,one32,one64];done))))));clear hm;intro w hm))
     refine rtO hm rfl rfl (hR:=⟨rfl,hm.x⟩)
theorem slo_rdZ {w0 w:World}{M R:List Blk}{p:Option Addr}{n c:Nat}{e:TypeId}{l:List Byte}(h:SlO M e 1 (.slice p n c) n (l.map v8))(hm:Own w0 w (M++R)):RdB w p l:=by
 have hl:=h.1
 rw [List.length_map,Nat.mul_one]at hl
 obtain⟨_,_,hv,_,_,h0,hcell⟩:=h.cells hm
 cases hv
 refine⟨fun hp=>h0 (by omega),fun i hi=> ?_⟩
 obtain⟨a,rfl,ha⟩:=hcell i (v8 (l.getD i 0)) (by rw [List.getElem?_map,List.getElem?_eq_getElem hi,List.getD_eq_getElem?_getD,List.getElem?_eq_getElem hi];rfl)
 exact ha
theorem wq_growZ {ops:Array Oper}{Q:Exit→Act→World→Prop}{rest:List Oper}{o:Oper}{a:Act}{w0 w:World}{L:List Blk}{s x:Operand}{N:Int}(n:Nat)(h0:0<n)(hn:n≤70368744177664)(hm:Own w0 w L)(hgd:o.guard=none)(ho:o.op= .call {callee:= .builtin .append,args:= #[s,x],argTypes:= #[22,3]})(hs:a.eval s= .slice none 0 0)(hx:a.eval x= .int .i64 N)(hN:N=(n:Int))
   (hr:∀g w' G cur,n≤G→G≤maxLen→cur.length=G→Own w0 w' (⟨g,5,cur⟩::L)→wpList Tryz.prog ops Q rest (a.put o.dst (.slice (some ⟨g,0,none⟩) n G)) w'):wpList Tryz.prog ops Q (o::rest) a w:=by
 subst hN
 obtain⟨i,hi,hz,hsz,hb⟩:=info_byte
 refine wpList_plain hgd fun K hK=> ?_
 have h:=Lib.run_append_grow_zeros (P:=Tryz.prog) w 22 3 o.type 5 i (.int .u8 0) .i64 .i64 Tryz.underlying22 Tryz.underlying3 hi hz none 0 0 [] (by simp [Builtin.firstCells]) n h0 (by omega) (by omega) (by omega) (by rw [hb];omega) (by rw [hb,Nat.zero_add,nextslicecap_zero h0];omega)
 rw [Nat.zero_add]at h
 have hG:=grownCap_ge w n 0 5
 have hM:=grownCap_le_maxLen w n 0 5 (by unfold maxLen;omega)
 obtain⟨G,hGe⟩:∃G,G=grownCap w n 0 5:=⟨_,rfl⟩
 rw [←hGe]at h hG hM
 obtain⟨X,hX⟩:∃X,X=([]:List Value).toArray++Builtin.zeroCells (Value.int .u8 0).cells n++Builtin.zeroCells (Value.int .u8 0).cells (G-n):=⟨_,rfl⟩
 rw [←hX]at h
 have hl:X.toList.length=G:=by
   rw [hX]
   simp only [Array.length_toList,Array.size_append,size_zeroCells]
   simp [Value.cells]
   omega
 have ho2:=hm.drew.alloc 5 X.toList
 rw [Array.toArray_toList]at ho2
 unfold Oper.wp
 simp only [execOp,ho,resolve,invoke,builtin,hs,hx,Sem.run_bind,Sem.run_pure,Result.andThen_ok,List.map_toArray,List.map_cons,List.map_nil,h]
 exact hK _ _ (hr _ _ G X.toList hG hM hl ho2)
theorem grow_any(n:Nat)(hn:n≤70368744177664)(w0:World):Calls Tryz.prog 139 #[.slice none 0 0, .int .i64 (n:Int)] w0 fun e w'=>∃v M,e= .returned v∧Own w0 w' (M++[])∧SlO M 5 1 v 0 []:=by
 have hm:=Own.start w0
 have i0:(0:Int)≤(n:Int):=by omega
 have i1:(n:Int)≤70368744177664:=by omega
 by_cases h0:n=0
 · subst h0
   go_enter Tryz.func139,Tryz.ntmps139
   go_wp2_with fail
   go_ret
   exact⟨_,[],rfl,hm,SlO.nil _ _⟩
 · have hp:(0:Int)<(n:Int):=by omega
   have hp2:0<n:=by omega
   go_enter Tryz.func139,Tryz.ntmps139
   go_wp2_with (first|((with_reducible show wpList _ _ _ (Oper.mk _ (Op.call _) _ _ _ _::_) _ _);refine wq_growZ n hp2 hn hm rfl rfl rfl rfl rfl ?_;clear hm;intro g1 w G cur hG hM hcur hm))
   go_ret
   exact⟨_,_,rfl,hm,SlO.room g1 _ 1 G cur (by omega) hM⟩
theorem flat_step(ls:List (List Byte))(k:Nat)(h:k<ls.length):(ls.take (k+1)).flatten=(ls.take k).flatten++ls.getD k []:=by
 rw [List.take_succ_eq_append_getElem h,List.flatten_append,List.getD_eq_getElem?_getD,List.getElem?_eq_getElem h];simp
theorem flat_le(ls:List (List Byte))(k:Nat):(ls.take k).flatten.length≤ls.flatten.length:=by
 have:=congrArg (fun l=>l.flatten.length) (List.take_append_drop k ls)
 simp only [List.flatten_append,List.length_append]at this
 omega
theorem concat_any(ls:List (List Byte))(p:Option Addr)(c:Nat)(w0:World)(hr:RdR w0 p ls)(hl:ls.length≤1000000)(hf:ls.flatten.length≤35184372088832):Calls Tryz.prog 128 #[.slice p ls.length c] w0 fun e w'=>∃v M,e= .returned v∧Own w0 w' (M++[])∧SlO M 5 1 v ls.flatten.length (ls.flatten.map v8):=by
 have hm:=Own.start w0
 have HR:=Lib.hid hr
 have FS:=Lib.hid (flat_step ls)
 have FL:=Lib.hid (flat_le ls)
 have FE:Hid ((ls.take ls.length).flatten=ls.flatten):=Lib.hid (by rw [List.take_length])
 have F0:Hid ((ls.take 0).flatten=[]):=Lib.hid rfl
 have HF:=Lib.hid hf
 have GR:=Lib.hid fun (n:Nat)(hn:n≤70368744177664) w=>grow_any n hn w
 obtain⟨F,hF⟩:∃F:Nat→List Byte,F=fun k=>(ls.take k).flatten:=⟨_,rfl⟩
 have FS2:Hid (∀k,k<ls.length→F (k+1)=F k++ls.getD k []):=Lib.hid (by rw [hF];exact FS.out)
 have FL2:Hid (∀k,(F k).length≤ls.flatten.length):=Lib.hid (by rw [hF];exact FL.out)
 have FE2:Hid (F ls.length=ls.flatten):=Lib.hid (by rw [hF];exact FE.out)
 have F02:Hid (F 0=[]):=Lib.hid (by rw [hF];exact F0.out)
 clear hF FS FL FE F0 hr hf
 obtain⟨N,hN⟩:∃N,N=ls.length:=⟨_,rfl⟩
 rw [←hN]at FS2 FE2 hl⊢
 have HN:=Lib.hid hN
 clear hN
 go_enter Tryz.func128,Tryz.ntmps128
 go_wp2_with fail
 go_loopw [3,11] (fun va vi wr=>∃k:Nat,k≤N∧vi= .int .i64 k∧va= .int .i64 ((F k).length:Int)∧Own w0 wr []) (fun _ vi _=>N-(intOf vi).toNat)
 case atStart=>exact⟨0,by omega,rfl,by rw [F02.out];rfl,hm⟩
 case round=>
   obtain⟨k,hk,rfl,rfl,hm⟩:=hrel
   by_cases hlt:k<N
   · have hd:decide ((k:Int)<(N:Int))=true:=decide_eq_true (by omega)
     have hd2:(k:Int)<(N:Int):=by omega
     obtain⟨a,rfl,q,d,hcell,_,_,_⟩:=(HR.out.ext hm.x).row k (by rw [←HN.out];exact hlt)
     have hsum:(F (k+1)).length=(F k).length+(ls.getD k []).length:=by rw [FS2.out k hlt,List.length_append]
     have hle:=FL2.out (k+1)
     have hff:=HF.out
     obtain⟨TK,hTK⟩:∃x,x=(F k).length:=⟨_,rfl⟩
     obtain⟨LK,hLK⟩:∃x,x=(ls.getD k []).length:=⟨_,rfl⟩
     rw [←hTK,←hLK]at hsum
     rw [←hLK]at hcell
     rw [←hTK]
     have HS:=Lib.hid hsum
     have i1:(TK:Int)+(LK:Int)≤35184372088832:=by omega
     have i2:(0:Int)≤(TK:Int)+(LK:Int):=by omega
     clear hsum hle hff hTK hLK
     go_wp2_with fail
     go_roundw
     case rel=>exact⟨k+1,by omega,by go_num,by rw [HS.out];go_num,hm⟩
     case measure=>simp [intOf]<;>omega
   · obtain rfl:k=N:=by omega
     have hd:decide ((k:Int)<(k:Int))=false:=decide_eq_false (by omega)
     obtain⟨TN,hTN⟩:∃x,x=(F k).length:=⟨_,rfl⟩
     rw [←hTN]
     have hff:=HF.out
     have hTN2:TN=ls.flatten.length:=by rw [hTN,FE2.out]
     have GRn:=Lib.hid (GR.out TN (by omega))
     clear hTN hff hTN2
     go_wp2_with fail
     refine(GRn.out _).mono ?_
     rintro e_ w ⟨v,M,rfl,hm1,hso⟩
     replace hm:=hm1.rebase hm.x
     clear hm1
     obtain⟨pv,cv,rfl⟩:=hso.form
     have HSO:=Lib.hid hso
     clear hso
     go_wp2_with fail
     go_loopw [6,27] (fun va vi wr=>∃(i:Nat)(r:Option Addr)(d:Nat)(M:List Blk),i≤k∧vi= .int .i64 i∧va= .slice r (F i).length d∧SlO M 5 1 (.slice r (F i).length d) (F i).length ((F i).map v8)∧Own w0 wr (M++[])) (fun _ vi _=>k-(intOf vi).toNat)
     case atStart=>exact⟨0,pv,cv,M,by omega,rfl,by rw [F02.out];rfl,by rw [F02.out];exact HSO.out,hm⟩
     case round=>
       obtain⟨i,r,d,M2,hi,rfl,rfl,hso,hm⟩:=hrel
       have HSO2:=Lib.hid hso
       by_cases hlt2:i<k
       · have hd:decide ((i:Int)<(k:Int))=true:=decide_eq_true (by omega)
         have hd2:(i:Int)<(k:Int):=by omega
         obtain⟨a,rfl,q,e,hcell,hrd,hle2,_⟩:=(HR.out.ext hm.x).row i (by rw [←HN.out];exact hlt2)
         have HS2:=Lib.hid (FS2.out i hlt2)
         have hsum:(F (i+1)).length=(F i).length+(ls.getD i []).length:=by rw [FS2.out i hlt2,List.length_append]
         have hle:=FL2.out (i+1)
         have hff:=HF.out
         have LX:=Lib.hid (show((ls.getD i []).map v8).length=(ls.getD i []).length*1 by rw [List.length_map,Nat.mul_one])
         obtain⟨X,hX⟩:∃x,x=ls.getD i []:=⟨_,rfl⟩
         rw [←hX]at hcell hrd hle2 HS2 hsum LX
         obtain⟨FI,hFI⟩:∃x,x=F i:=⟨_,rfl⟩
         rw [←hFI]at HSO2 HS2 hsum⊢
         have HRD:=Lib.hid hrd
         have HSUM:=Lib.hid hsum
         have FIT:=Lib.hid (show(FI.length+X.length)*(1+1)≤140737488355328 by omega)
         clear hso hX hFI hsum hle hff hrd
         go_wp2_with (first|((with_reducible show wpList _ _ _ (Oper.mk _ (Op.call _) _ _ _ _::_) _ _);refine wplO_app (M:=M2) (R:=_) (ds:=X.map v8) hm HSO2.out rfl rfl rfl rfl Tryz.underlying22 LX.out (cells_b HRD.out) (one_map _) FIT.out ?_;clear hm;intro v1 w M1 hm hs1;obtain⟨p_v1,c_v1,rfl⟩:=hs1.form))
         go_roundw
         case rel=>exact⟨i+1,_,_,M1,by omega,by go_num,by rw [HSUM.out],by rw [HSUM.out,HS2.out,List.map_append];exact hs1,hm⟩
         case measure=>simp [intOf]<;>omega
       · obtain rfl:i=k:=by omega
         have hd:decide ((i:Int)<(i:Int))=false:=decide_eq_false (by omega)
         go_wp2_with fail
         go_ret
         rw [FE2.out]at hso
         refine⟨.slice r (F i).length d,M2,rfl,hm, ?_⟩
         rw [FE2.out]
         exact hso
theorem ret_own3 {P:Program}{w0 w:World}{L:List Blk}{T t:TypeId}{g:Nat}{cs:List Value}{a:Act}{fn:Func}{R:Ending→World→Prop}{p u:Tmp}{n:Nat}{v:Value}(hm:Own w0 w L)(h:fn.results= #[.tmp u, .cell p T])(hp:a.tmps.getD p undef= .pointer (some ⟨g,0,none⟩))(hu:a.tmps.getD u undef=v)(hT:Many P T n)(hh:Has L ⟨g,t,cs⟩)(hn:cs.length=n)
   (hf:a.defers=[]) (hR:R (.returned (.tuple #[v, .agg cs.toArray])) w):bodyPost P fn R .ret a w:=by
 obtain⟨d,hd1,hd2⟩:=Option.map_eq_some_iff.1 hT.row
 subst hu
 refine bodyPost_ret (v:= .tuple #[a.tmps.getD u undef, .agg cs.toArray]) ?_ hf hR
 have hl:=run_loadVar_row w g t T cs.toArray (0,0) d (hm.row hh) hd1 (by cases d<;>simp_all) (by rw [List.size_toArray,hn];exact hT.size)
 have hp':a.tmps[p]?.getD undef= .pointer (some ⟨g,0,none⟩):=by simpa using hp
 simp [results,h,hp',asAddr,hl]
def rgt(m:List Byte)(n:Nat):List Byte:=(m.drop n).take 16
theorem aparts_any(m:List Byte)(n:Nat)(hl:m.length=n+16)(hn:n<400)(p:Option Addr)(c:Nat)(hc:n+16≤c)(w0:World)(hr:RdB w0 p m):
   Calls Tryz.prog 117 #[.slice p (n+16) c] w0 fun e w'=>∃v M R,e= .returned (.tuple #[v,WV (num (rgt m n) 0 8) (num (rgt m n) 8 8)])∧Own w0 w' (M++R)∧SlO M 5 1 v n ((m.take n).map v8):=by
 have hm:=Own.start w0
 obtain⟨f1,f2,f3⟩:=fl_16_at n hn
 have cv:=conv_if f2.of
 have O1:=Lib.hid fun w (hx:Ext w0 w)=>(show Calls Tryz.prog 124 #[.slice p (n+16) c, .complex .f64 0 (flv n)] w fun e w'=>∃v M,e= .returned (.tuple #[v, .bool true])∧Own w w' (M++[])∧SlO M 5 1 v n ((m.take n).map v8)from by
   have:=of_own m p c 0 0 (flv n) n (flv (n+16)) (by rw [hl];exact f1) (by rw [hl];exact f2) (by omega) (by omega) (by omega) w (hr.ext hx)
   rwa [hl,List.drop_zero]at this)
 have O2:=Lib.hid fun w (hx:Ext w0 w)=>(show Calls Tryz.prog 124 #[.slice p (n+16) c, .complex .f64 (flv n) 4625196817309499392] w fun e w'=>∃v M,e= .returned (.tuple #[v, .bool true])∧Own w w' (M++[])∧SlO M 5 1 v 16 ((rgt m n).map v8)from by
   have:=of_own m p c (flv n) n 4625196817309499392 16 (flv (n+16)) (by rw [hl];exact f2) (by rw [hl];exact f3) (by omega) (by omega) (by omega) w (hr.ext hx)
   rwa [hl]at this)
 have lR:(rgt m n).length=16:=by rw [rgt,List.length_take,List.length_drop];omega
 have lB:(m.take n).length=n:=by rw [List.length_take];omega
 obtain⟨Rg,hRg⟩:∃x,x=rgt m n:=⟨_,rfl⟩
 obtain⟨Bk,hBk⟩:∃x,x=m.take n:=⟨_,rfl⟩
 rw [←hRg]at O2 lR⊢
 rw [←hBk]at O1 lB⊢
 have LD:=Lib.hid fun (w:World)(q:Option Addr)(d:Nat)(h:RdB w q Rg)=>(show Gives Tryz.prog 125 #[.slice q 16 d] w (WV (num Rg 0 8) (num Rg 8 8))from by
   have:=load_any Rg q d w h (by omega);rwa [lR]at this)
 have LR:=Lib.hid lR
 have LB:=Lib.hid lB
 obtain⟨FN,hFN⟩:∃x,x=flv n:=⟨_,rfl⟩
 rw [←hFN]at cv O1 O2
 clear f1 f2 f3 hr hl lR lB hRg hBk hFN
 go_enter Tryz.func117,Tryz.ntmps117
 go_wp2_with (first|(go_at_call 124;(with_reducible refine(O1.out _ hm.x).mono ?_);rintro e_ w ⟨v1,M1,rfl,hm1,hs1⟩;rw [List.append_nil]at hm1;replace hm:=hm.join hm1;obtain⟨p1,c1,rfl⟩:=hs1.form;clear hm1)|(go_at_call 124;(with_reducible refine(O2.out _ hm.x).mono ?_);rintro e_ w ⟨v2,M2,rfl,hm1,hs2⟩;rw [List.append_nil]at hm1;replace hm:=hm.join hm1;obtain⟨p2,c2,rfl⟩:=hs2.form;clear hm1)|(go_at_call 125;(with_reducible refine(LD.out _ _ _ (slo_rdZ hs2 hm)).mono ?_);rintro e_ w ⟨rfl,hx_⟩;replace hm:=hm.ext hx_;clear hx_)|((((with_reducible show qSt);first|((with_reducible apply wq_stW hm);exact rfl;infer_instance;exact rfl;exact rfl;(focus ((repeat (first|exact .hd|assumption|apply Swap.tl|apply Swap.app));done));(focus (first|rfl|omega|(simp;done)|(simp;omega)));(focus (first|rfl|omega|(simp;done)|(simp;omega)));(focus (first|exact one_map _|(simp [one8,one32,one64];done))))));clear hm;intro w hm)|((first|((with_reducible show qAl);first|((with_reducible apply wq_new hm);exact rfl;infer_instance)));clear hm;intro gx_;intro w hm))
 exact ret_own3 hm rfl rfl rfl (by infer_instance) (by repeat (first|exact Has.hd|assumption|apply Has.tl|apply Has.app)) rfl rfl ⟨_,M1,_,rfl,hm.dropN,hs1⟩
section
variable {P:Program} {ops:Array Oper} {Q:Exit→Act→World→Prop} {rest:List Oper} {dst:Option Tmp} {ty:TypeId} {pos:String} {aft:Array Edge} {gd:Option (Nat×Bool)} {a:Act} {w0 w:World} {L:List Blk} {T e:TypeId}
theorem wq_bs2g {u0 u1:Value}{x0 x1:Operand}{cs:List Value}(hb:∀w,(Instr.buildSlice T 2 #[(0,u0),(1,u1)]).run P w= .ok (.slice (some ⟨w.heap.size,0,none⟩) 2 2) (w.alloc (.cells cs.toArray e)))(hm:Own w0 w L)(hgd:Region.wanted (Oper.mk dst (.buildSlice T 2 #[(0,x0),(1,x1)]) ty pos aft gd) (yielded ops a.tmps)=true)(hx0:a.eval x0=u0)(hx1:a.eval x1=u1)(hr:∀g w',Own w0 w' (⟨g,e,cs⟩::L)→wpList P ops Q rest (a.put dst (.slice (some ⟨g,0,none⟩) 2 2)) w'):wpList P ops Q ((Oper.mk dst (.buildSlice T 2 #[(0,x0),(1,x1)]) ty pos aft gd)::rest) a w:=
 wpList_want hgd fun K hK=>by
   unfold Oper.wp execOp
   simp [hx0,hx1,hb,Sem.run_bind,Result.andThen_ok,Sem.run_pure]
   exact hK _ _ (hr _ _ (hm.alloc e cs))
end
theorem bs_s2(p q:Option Addr)(n c m d:Nat)(w:World):(Instr.buildSlice 26 2 #[(0, .slice p n c),(1, .slice q m d)]).run Tryz.prog w= .ok (.slice (some ⟨w.heap.size,0,none⟩) 2 2) (w.alloc (.cells [.slice p n c, .slice q m d].toArray 22)):=by kernel_rfl
theorem bs_s3(p q r:Option Addr)(n c m d k e:Nat)(w:World):(Instr.buildSlice 26 3 #[(0, .slice p n c),(1, .slice q m d),(2, .slice r k e)]).run Tryz.prog w= .ok (.slice (some ⟨w.heap.size,0,none⟩) 3 3) (w.alloc (.cells [.slice p n c, .slice q m d, .slice r k e].toArray 22)):=by kernel_rfl
theorem rdR2 {w:World}{g:Nat}{t:TypeId}{p q:Option Addr}{a b:List Byte}{c d:Nat}(h:Row w g t [.slice p a.length c, .slice q b.length d])(ha:RdB w p a)(hb:RdB w q b)(hc:a.length≤c)(hd:b.length≤d)(la:a.length≤maxLen)(lb:b.length≤maxLen):RdR w (some ⟨g,0,none⟩) [a,b]:=by
 refine⟨fun _=>rfl,fun i hi=> ?_⟩
 have hcell:∀k,w.cell? (((some (⟨g,0,none⟩:Addr)).getD default).add k)=w.cell? ⟨g,k,none⟩:=fun k=>by rw [show((some (⟨g,0,none⟩:Addr)).getD default).add k=⟨g,k,none⟩from by simp [Addr.add];exact fun h=>h.symm]
 match i,hi with
 |0,_=>exact⟨p,c,(hcell 0).trans (row_cell h 0),ha,hc,la⟩
 |1,_=>exact⟨q,d,(hcell 1).trans (row_cell h 1),hb,hd,lb⟩
theorem rdR3 {w:World}{g:Nat}{t:TypeId}{p q r:Option Addr}{a b x:List Byte}{c d e:Nat}(h:Row w g t [.slice p a.length c, .slice q b.length d, .slice r x.length e])(ha:RdB w p a)(hb:RdB w q b)(hx:RdB w r x)(hc:a.length≤c)(hd:b.length≤d)(he:x.length≤e)(la:a.length≤maxLen)(lb:b.length≤maxLen)(lx:x.length≤maxLen):RdR w (some ⟨g,0,none⟩) [a,b,x]:=by
 refine⟨fun _=>rfl,fun i hi=> ?_⟩
 have hcell:∀k,w.cell? (((some (⟨g,0,none⟩:Addr)).getD default).add k)=w.cell? ⟨g,k,none⟩:=fun k=>by rw [show((some (⟨g,0,none⟩:Addr)).getD default).add k=⟨g,k,none⟩from by simp [Addr.add];exact fun h=>h.symm]
 match i,hi with
 |0,_=>exact⟨p,c,(hcell 0).trans (row_cell h 0),ha,hc,la⟩
 |1,_=>exact⟨q,d,(hcell 1).trans (row_cell h 1),hb,hd,lb⟩
 |2,_=>exact⟨r,e,(hcell 2).trans (row_cell h 2),hx,he,lx⟩
theorem ajoined_any(b:List Byte)(lo hi:BitVec 64)(hb:b.length≤1000000)(q:Option Addr)(d:Nat)(hd:b.length≤d)(w0:World)(hr:RdB w0 q b):
   Calls Tryz.prog 120 #[.slice q b.length d,WV lo hi] w0 fun e w'=>∃v M R,e= .returned v∧Own w0 w' (M++R)∧SlO M 5 1 v (b.length+16) ((b++(putL lo 8++putL hi 8)).map v8):=by
 have hm:=Own.start w0
 have BB:=Lib.hid fun w=>bytes_any lo hi w
 have lP:(putL lo 8++putL hi 8).length=16:=by rw [List.length_append,putL_length,putL_length]
 obtain⟨Pb,hPb⟩:∃x,x=putL lo 8++putL hi 8:=⟨_,rfl⟩
 rw [←hPb]at BB lP⊢
 have BS:=Lib.hid fun g=>bs_s2 q (some ⟨g,0,none⟩) b.length d 16 16
 have RR:=Lib.hid fun (g g2:Nat)(t:TypeId)(w:World)(hx:Ext w0 w)(h:Row w g t [.slice q b.length d, .slice (some ⟨g2,0,none⟩) 16 16])(h2:RdB w (some ⟨g2,0,none⟩) Pb)=>(rdR2 (a:=b) (b:=Pb) (by rw [lP];exact h) (hr.ext hx) h2 hd (by omega) (by unfold maxLen;omega) (by unfold maxLen;omega))
 have lF:[b,Pb].flatten.length=b.length+16:=by simp [lP]
 have eF:Hid ([b,Pb].flatten=b++Pb):=Lib.hid (by simp)
 have CC:=Lib.hid fun (w:World)(p:Option Addr)(h:RdR w p [b,Pb])=>(show Calls Tryz.prog 128 #[.slice p 2 2] w fun e w'=>∃v M,e= .returned v∧Own w w' (M++[])∧SlO M 5 1 v (b.length+16) ((b++Pb).map v8)from by
   have:=concat_any [b,Pb] p 2 w h (by simp) (by rw [lF];omega)
   rwa [lF,eF.out]at this)
 have h1:=Nat.le_of_eq lP
 have h2:=Nat.le_of_eq lP.symm
 obtain⟨BL,hBL⟩:∃x,x=b.length:=⟨_,rfl⟩
 rw [←hBL]at BS RR CC⊢
 clear hr hPb hb hd hBL lF
 go_enter Tryz.func120,Tryz.ntmps120
 go_wp2_with (first|(go_at_call 32;(with_reducible refine(BB.out _).mono ?_);rintro e_ w ⟨rfl,hx_⟩;replace hm:=hm.ext hx_;clear hx_)|((with_reducible apply wq_bs2g (BS.out _) hm);exact rfl;exact rfl;exact rfl;clear hm;intro gb w hm)|(go_at_call 128;(with_reducible refine(CC.out _ _ (RR.out gb g2 _ _ hm.x (hm.row .hd) (hm.rdB (g:=g2) (l:=Pb) (.tl .hd)))).mono ?_);rintro e_ w ⟨v2,M2,rfl,hm1,hs2⟩;rw [List.append_nil]at hm1;replace hm:=hm.join hm1;clear hm1)|((with_reducible show qLd);first|((with_reducible apply wq_ldW hm);exact rfl;infer_instance;exact rfl;(focus ((repeat (first|exact .hd|assumption|apply Has.tl|apply Has.app));done));(focus (first|rfl|omega|(simp;done)|(simp;omega)))))|((((with_reducible show qSt);first|((with_reducible apply wq_stW hm);exact rfl;infer_instance;exact rfl;exact rfl;(focus ((repeat (first|exact .hd|assumption|apply Swap.tl|apply Swap.app));done));(focus (first|rfl|omega|(simp;done)|(simp;omega)));(focus (first|rfl|omega|(simp;done)|(simp;omega)));(focus (first|exact one_map _|(simp [one8,one32,one64];done))))));clear hm;intro w hm)|((first|((with_reducible show qAl);first|((with_reducible apply wq_new hm);exact rfl;infer_instance))|((with_reducible show qBx);first|((with_reducible apply wq_boxN hm);exact rfl;exact rfl)));clear hm;(first|(have hx_:=g1;clear hx_;(first|(have hx_:=g2;clear hx_;intro gx_)|intro g2))|intro g1);intro w hm))
 go_ret
 exact⟨_,M2,_,rfl,hm,hs2⟩
end Go.Proofs.YtllnjbiebdkmbaaGreatDoor
