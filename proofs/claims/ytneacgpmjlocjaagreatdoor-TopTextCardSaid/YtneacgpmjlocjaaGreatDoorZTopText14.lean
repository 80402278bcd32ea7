/-
  Texts of the program, walked, and plain ones. Conditions: those written in each theorem.
-/
import Derived.Test.YtneacgpmjlocjaaGreatDoorZTopText0
import Derived.Test.YtneacgpmjlocjaaGreatDoorZTopText13
import Derived.Test.YtneacgpmjlocjaaGreatDoorZTopText10
import Derived.Laws.ResultCell
import Derived.Test.YtneacgpmjlocjaaGreatDoorZTopText3
import Derived.Test.YtneacgpmjlocjaaGreatDoorZTopText8
import Derived.Test.YtneacgpmjlocjaaGreatDoorZTopText12
import Derived.Test.YtneacgpmjlocjaaGreatDoorZTopText11
import Derived.Test.YtneacgpmjlocjaaGreatDoorZTopText7
import Derived.Test.YtneacgpmjlocjaaGreatDoorZTopText5
import Derived.Test.YtneacgpmjlocjaaGreatDoorZTopText6
import Derived.Test.YtneacgpmjlocjaaGreatDoorZTopText2
set_option linter.unusedSimpArgs false
set_option linter.unusedVariables false
set_option maxHeartbeats 16000000
open Go.Lib (hid)
namespace Go.Proofs.YtneacgpmjlocjaaGreatDoor
open Go Go.RowKit
set_option maxRecDepth 100000
theorem ret_own2 {P:Program}{w0 w:World}{L:List Blk}{T t:TypeId}{g:Nat}{cs:List Value}{a:Act}{fn:Func}{R:Ending→World→Prop}{p u:Tmp}{n:Nat}{v:Value}(hm:Own w0 w L)(h:fn.results= #[.cell p T, .tmp u])(hp:a.tmps.getD p undef= .pointer (some ⟨g,0,none⟩))(hu:a.tmps.getD u undef=v)(hT:Many P T n)(hh:Has L ⟨g,t,cs⟩)(hn:cs.length=n)
   (hf:a.defers=[]) (hR:R (.returned (.tuple #[.agg cs.toArray,v])) w):bodyPost P fn R .ret a w:=by
 obtain⟨d,hd1,hd2⟩:=Option.map_eq_some_iff.1 hT.row
 subst hu
 refine bodyPost_ret (v:= .tuple #[.agg cs.toArray,a.tmps.getD u undef]) ?_ hf hR
 rw [results_cell_tmp h,hp]
 have hl:=run_loadVar_row w g t T cs.toArray (0,0) d (hm.row hh) hd1 (by cases d<;>simp_all) (by rw [List.size_toArray,hn];exact hT.size)
 simp [asAddr,Sem.run_pure,Result.andThen_ok,hl]
theorem Own.pull2 {w0 w:World}{L:List Blk}{a b c:Blk}(h:Own w0 w (a::b::c::L)):Own w0 w (c::a::b::L):=h.perm (List.perm_middle (l₁ :=[a,b]))
theorem Own.pull1 {w0 w:World}{L:List Blk}{a c:Blk}(h:Own w0 w (a::c::L)):Own w0 w (c::a::L):=h.perm (List.perm_middle (l₁ :=[a]))
theorem mixed_any(l:List (BitVec 32))(hl:l.length=16)(w0:World):Gives Tryz.prog 102 #[S32 l, .int .i64 12] w0 (S32 (mixC l 6)):=by
 unfold Gives
 have hm:=Own.start w0
 have HL:=hid hl
 have h1:=Nat.le_of_eq hl
 have h2:=Nat.le_of_eq hl.symm
 have S0:=hid fun (g:Nat)(v:List (BitVec 32))(hv:v.length=16)(w:World)(L L':List Blk)(hm:Own w0 w L)(hs:Swap L ⟨g,182,v.map v32⟩ ⟨g,182,(slaF v 0 4).map v32⟩ L')=>show Calls Tryz.prog 129 #[.pointer (some ⟨g,0,none⟩), .int .i64 0] w fun e w'=>e= .returned (.tuple #[])∧Own w0 w' L' from slanted_any g v 0 (by omega) hv w0 w L L' hm hs
 have S1:=hid fun (g:Nat)(v:List (BitVec 32))(hv:v.length=16)(w:World)(L L':List Blk)(hm:Own w0 w L)(hs:Swap L ⟨g,182,v.map v32⟩ ⟨g,182,(slaF v 1 4).map v32⟩ L')=>show Calls Tryz.prog 129 #[.pointer (some ⟨g,0,none⟩), .int .i64 1] w fun e w'=>e= .returned (.tuple #[])∧Own w0 w' L' from slanted_any g v 1 (by omega) hv w0 w L L' hm hs
 have E0:Hid (mixC l 0=l):=hid rfl
 have EF:=hid fun k=>(show mixC l (k+1)=slaF (slaF (mixC l k) 0 4) 1 4 from rfl)
 have LF:=hid fun k=>(show(mixC l k).length=16 by rw [mixC_length];exact hl)
 generalize mixC l=F at*
 clear hl
 go_enter Tryz.func102,Tryz.ntmps102
 go_wp2_with (first|((first|((with_reducible show qAl);first|(refine zG hm ?_))|((with_reducible show qBx);first|(refine zH hm ?_)));clear hm;(first|(have hx_:=g1;clear hx_;(first|(have hx_:=g2;clear hx_;intro gx_)|intro g2))|intro g1);intro w hm))
 go_loopw [7] (fun i wr=>∃k:Nat,k≤6∧i= .int .i64 k∧Own w0 wr [⟨g2,182,(zer (n:=32) 16).map v32⟩,⟨g1,182,(F k).map v32⟩]) (fun i _=>6-(intOf i).toNat)
 case atStart=>exact⟨0,by omega,rfl,by rw [E0.out];exact hm⟩
 case round=>
   obtain⟨k,hk,rfl,hm⟩:=hrel
   have lV:=LF.out k
   by_cases hlt:k<6
   · have hd:decide ((k:Int)<6)=true:=decide_eq_true (by omega)
     have hd2:(k:Int)<6:=by omega
     have EK:=hid (EF.out k)
     generalize F k=V at*
     go_wp2_with fail
     refine(S0.out g1 V lV _ _ _ hm (.tl .hd)).mono ?_
     rintro e_ w ⟨rfl,hm1⟩
     replace hm:=hm1
     clear hm1
     have lW:(slaF V 0 4).length=16:=by rw [slaF_length];exact lV
     generalize slaF V 0 4=W at*
     go_wp2_with fail
     refine(S1.out g1 W lW _ _ _ hm (.tl .hd)).mono ?_
     rintro e_ w ⟨rfl,hm1⟩
     replace hm:=hm1
     clear hm1
     go_wp2_with fail
     go_roundw
     case rel=>exact⟨k+1,by omega,by go_num,by rw [EK.out];exact hm⟩
     case measure=>simp [intOf]<;>omega
   · obtain rfl:k=6:=by omega
     have h3:=Nat.le_of_eq lV
     have h4:=Nat.le_of_eq lV.symm
     go_wp2_with (first|((with_reducible show qLd);first|(refine zB hm ?_))|((((with_reducible show qSt);first|(refine zE hm ?_)));clear hm;intro w hm))
     refine rtO hm rfl rfl ⟨rfl,hm.x⟩
def sumC(s:List (BitVec 32))(k:Nat):List (BitVec 32):=part 16 k (fun i=>nth (mixC s 6) i+nth s i) (nth (mixC s 6))
theorem sumC_length(s:List (BitVec 32))(k:Nat):(sumC s k).length=16:=part_length
def blkB(key inp:List Byte):List Byte:=ptF (zer 64) 0 (sumC (staF key inp 4) 16) 0 16
theorem blkB_length(key inp:List Byte):(blkB key inp).length=64:=by rw [blkB,ptF_length _ _ _ _ _ (by rw [zer_length];omega),zer_length]
def shoB(key inp:List Byte):List Byte:=ptF (ptF (zer 32) 0 (mixC (staF key inp 4) 6) 0 4) 16 (mixC (staF key inp 4) 6) 12 4
theorem shoB_length(key inp:List Byte):(shoB key inp).length=32:=by
 rw [shoB,ptF_length _ _ _ _ _ (by rw [ptF_length _ _ _ _ _ (by rw [zer_length];omega),zer_length];omega),ptF_length _ _ _ _ _ (by rw [zer_length];omega),zer_length]
theorem block12(key inp:List Byte)(hk:key.length=32)(hi:inp.length=16)(w0:World):Gives Tryz.prog 80 #[A8 key,A8 inp, .int .i64 12] w0 (.tuple #[A8 (blkB key inp), .int .i64 0]):=by
 unfold Gives
 have hm:=Own.start w0
 have ST:=hid fun w=>start_any key inp hk hi w
 have EB:Hid (blkB key inp=ptF (zer 64) 0 (sumC (staF key inp 4) 16) 0 16):=hid rfl
 have lB:=blkB_length key inp
 have lS:=staF_length key inp 4
 generalize blkB key inp=B at*
 generalize staF key inp 4=S at*
 have MX:=hid fun w=>mixed_any S lS w
 have lT:(mixC S 6).length=16:=by rw [mixC_length];exact lS
 have LU:=hid (sumC_length S)
 have E0:Hid (mixC S 6=sumC S 0):=hid (part_start lT)
 have EK:=hid fun k (h:k<16)=>(show setN (sumC S k) k (nth (sumC S k) k+nth S k)=sumC S (k+1)from part_set' h (by rw [sumC,nth_part_ge h (Nat.le_refl _)]))
 generalize mixC S 6=T at*
 have h1:=Nat.le_of_eq hk
 have h2:=Nat.le_of_eq hk.symm
 have h3:=Nat.le_of_eq hi
 have h4:=Nat.le_of_eq hi.symm
 have h5:=Nat.le_of_eq lS
 have h6:=Nat.le_of_eq lS.symm
 have h7:=Nat.le_of_eq lT
 have h8:=Nat.le_of_eq lT.symm
 have h9:=Nat.le_of_eq lB
 have h10:=Nat.le_of_eq lB.symm
 clear hk hi
 go_enter Tryz.func80,Tryz.ntmps80
 go_wp2_with (first|(go_at_call 100;(with_reducible refine(known12 _).mono ?_);rintro e_ w_ ⟨rfl,rfl⟩)|(go_at_call 101;(with_reducible refine(ST.out _).mono ?_);rintro e_ w ⟨rfl,hx_⟩;replace hm:=hm.ext hx_;clear hx_)|(go_at_call 102;(with_reducible refine(MX.out _).mono ?_);rintro e_ w ⟨rfl,hx_⟩;replace hm:=hm.ext hx_;clear hx_)|((with_reducible show qLd);first|(refine zB hm ?_))|((((with_reducible show qSt);first|(refine zE hm ?_)));clear hm;intro w hm)|((first|((with_reducible show qAl);first|(refine zG hm ?_))|((with_reducible show qBx);first|(refine zH hm ?_)));clear hm;(first|(have hx_:=g1;clear hx_;(first|(have hx_:=g2;clear hx_;(first|(have hx_:=g3;clear hx_;(first|(have hx_:=g4;clear hx_;(first|(have hx_:=g5;clear hx_;(first|(have hx_:=g6;clear hx_;intro gx_)|intro g6))|intro g5))|intro g4))|intro g3))|intro g2))|intro g1);intro w hm))
 rw [E0.out]at hm
 clear h7 h8
 go_loopw [25] (fun i wr=>∃k:Nat,k≤16∧i= .int .i64 k∧Own w0 wr [⟨g6,182,(sumC S k).map v32⟩,⟨g5,182,S.map v32⟩,⟨g4,149,(zer 64).map v8⟩,⟨g3,149,(zer 64).map v8⟩,⟨g2,132,inp.map v8⟩,⟨g1,121,key.map v8⟩]) (fun i _=>16-(intOf i).toNat)
 case atStart=>exact⟨0,by omega,rfl,hm⟩
 case round =>
   obtain⟨k,hk,rfl,hm⟩:=hrel
   have lU:=LU.out k
   by_cases hlt:k<16
   · have hd:decide ((k:Int)<16)=true:=decide_eq_true (by omega)
     have hd2:(k:Int)<16:=by omega
     have EC:=hid (EK.out k hlt)
     generalize sumC S k=C at*
     go_wp2_with fail
     refine rgE 8 41 ?_
     simp only [tSC,tZe,dSC,dZe,mCo,mNi]
     repeat (first
         | (apply walk_is rfl rfl rfl
            · (intro wx hwx;first|((with_reducible show qGl);first|(exact zJ (hm.ext hwx)))|(go_simp;(try go_bits);first|exact gives_same|exact gives_skip))
            · (simp only [Act.put,sIB,sCS,sCZ];rfl))
         | (apply walk_not rfl rfl rfl
            · (simp only [Act.put,sIB,sCS,sCZ];rfl)))
     intro wz hwz
     simp only [zCC,zNR]
     repeat (first|rw [fin_is]|(rw [fin_cons];intro _ _))
     rw [fin_nil]
     try (replace hm:=hm.ext hwz)
     simp only [Act.put,sIB,sCS,sCZ]
     go_wp2_with (first|((((with_reducible show qSt);first|(refine zD hm ?_)));clear hm;intro w hm))
     go_roundw
     case rel=>
       rw [EC.out]at hm
       exact⟨k+1,by omega,by go_num,hm⟩
     case measure=>simp [intOf]<;>omega
   · obtain rfl:k=16:=by omega
     have hd:decide (((16:Nat):Int)<16)=false:=decide_eq_false (by omega)
     have PT:=hid fun (w:World)(R:List Blk)(hm:Own w0 w (⟨g4,149,(zer 64).map v8⟩::R))(hT:Has R ⟨g6,182,(sumC S 16).map v32⟩)=>(show Calls Tryz.prog 103 #[.slice (some ⟨g4,0,none⟩) 64 64, .slice (some ⟨g6,0,none⟩) 16 16] w fun e w'=>e= .returned (.tuple #[])∧Own w0 w' (⟨g4,149,B.map v8⟩::R)from by
       have:=cput_any g4 g6 149 (zer 64) (sumC S 16) 0 64 64 0 16 16 (by rw [zer_length]) (by omega) (by omega) (by rw [LU.out 16];omega) (by omega) (by omega) w0 w R hm hT
       rwa [←EB.out]at this)
     generalize sumC S 16=C at*
     go_wp2_with fail
     refine rgE 2 41 ?_
     simp only [tSC,tZe,dSC,dZe,mCo,mNi]
     repeat (first
         | (apply walk_is rfl rfl rfl
            · (intro wx hwx;go_simp;(try go_bits);first|exact gives_same|exact gives_skip)
            · (simp only [Act.put,sIB,sCS,sCZ];rfl))
         | (apply walk_not rfl rfl rfl
            · (simp only [Act.put,sIB,sCS,sCZ];rfl)))
     intro wz hwz
     simp only [zCC,zNR]
     repeat (first|rw [fin_is]|(rw [fin_cons];intro _ _))
     rw [fin_nil]
     try (replace hm:=hm.ext hwz)
     simp only [Act.put,sIB,sCS,sCZ]
     go_wp2_with fail
     refine(PT.out _ _ hm.pull2 .hd).mono ?_
     rintro e_ w ⟨rfl,hm1⟩
     replace hm:=hm1
     clear hm1
     go_wp2_with (first|((with_reducible show qLd);first|(refine zB hm ?_))|((((with_reducible show qSt);first|(refine zE hm ?_)));clear hm;intro w hm))
     exact ret_own2 hm rfl rfl rfl (by infer_instance) (by repeat (first|exact Has.hd|assumption|apply Has.tl)) (by rw [List.length_map];exact lB) rfl ⟨rfl,hm.x⟩
theorem short12(key inp:List Byte)(hk:key.length=32)(hi:inp.length=16)(w0:World):Gives Tryz.prog 79 #[A8 key,A8 inp, .int .i64 12] w0 (.tuple #[A8 (shoB key inp), .int .i64 0]):=by
 unfold Gives
 have hm:=Own.start w0
 have ST:=hid fun w=>start_any key inp hk hi w
 have EB:Hid (shoB key inp=ptF (ptF (zer 32) 0 (mixC (staF key inp 4) 6) 0 4) 16 (mixC (staF key inp 4) 6) 12 4):=hid rfl
 have lB:=shoB_length key inp
 have lS:=staF_length key inp 4
 generalize shoB key inp=B at*
 generalize staF key inp 4=S at*
 have MX:=hid fun w=>mixed_any S lS w
 have lT:(mixC S 6).length=16:=by rw [mixC_length];exact lS
 generalize mixC S 6=T at*
 have lP:(ptF (zer 32) 0 T 0 4).length=32:=by rw [ptF_length _ _ _ _ _ (by rw [zer_length];omega),zer_length]
 have PT:=hid fun (g gt:Nat)(w:World)(R:List Blk)(hm:Own w0 w (⟨g,121,(zer 32).map v8⟩::R))(hT:Has R ⟨gt,182,T.map v32⟩)=>(show Calls Tryz.prog 103 #[.slice (some ⟨g,0,none⟩) 32 32, .slice (some ⟨gt,0,none⟩) 4 16] w fun e w'=>e= .returned (.tuple #[])∧Own w0 w' (⟨g,121,(ptF (zer 32) 0 T 0 4).map v8⟩::R)from
   cput_any g gt 121 (zer 32) T 0 32 32 0 4 16 (by rw [zer_length]) (by omega) (by omega) (by omega) (by omega) (by omega) w0 w R hm hT)
 generalize ptF (zer 32) 0 T 0 4=P1 at*
 have PU:=hid fun (g gt:Nat)(w:World)(R:List Blk)(hm:Own w0 w (⟨g,121,P1.map v8⟩::R))(hT:Has R ⟨gt,182,T.map v32⟩)=>(show Calls Tryz.prog 103 #[.slice (some ⟨g,16,none⟩) 16 16, .slice (some ⟨gt,12,none⟩) 4 4] w fun e w'=>e= .returned (.tuple #[])∧Own w0 w' (⟨g,121,B.map v8⟩::R)from by
   have:=cput_any g gt 121 P1 T 16 16 16 12 4 4 (by rw [lP]) (by omega) (by omega) (by omega) (by omega) (by omega) w0 w R hm hT
   rwa [←EB.out]at this)
 have h1:=Nat.le_of_eq hk
 have h2:=Nat.le_of_eq hk.symm
 have h3:=Nat.le_of_eq hi
 have h4:=Nat.le_of_eq hi.symm
 have h5:=Nat.le_of_eq lS
 have h6:=Nat.le_of_eq lS.symm
 have h7:=Nat.le_of_eq lT
 have h8:=Nat.le_of_eq lT.symm
 have h9:=Nat.le_of_eq lB
 have h10:=Nat.le_of_eq lB.symm
 clear hk hi
 go_enter Tryz.func79,Tryz.ntmps79
 go_wp2_with (first|(go_at_call 100;(with_reducible refine(known12 _).mono ?_);rintro e_ w_ ⟨rfl,rfl⟩)|(go_at_call 101;(with_reducible refine(ST.out _).mono ?_);rintro e_ w ⟨rfl,hx_⟩;replace hm:=hm.ext hx_;clear hx_)|(go_at_call 102;(with_reducible refine(MX.out _).mono ?_);rintro e_ w ⟨rfl,hx_⟩;replace hm:=hm.ext hx_;clear hx_)|((with_reducible show qLd);first|(refine zB hm ?_))|((((with_reducible show qSt);first|(refine zE hm ?_)));clear hm;intro w hm)|((first|((with_reducible show qAl);first|(refine zG hm ?_))|((with_reducible show qBx);first|(refine zH hm ?_)));clear hm;(first|(have hx_:=g1;clear hx_;(first|(have hx_:=g2;clear hx_;(first|(have hx_:=g3;clear hx_;(first|(have hx_:=g4;clear hx_;(first|(have hx_:=g5;clear hx_;intro gx_)|intro g5))|intro g4))|intro g3))|intro g2))|intro g1);intro w hm))
 refine rgE 2 29 ?_
 simp only [tSC,tZe,dSC,dZe,mCo,mNi]
 repeat (first
     | (apply walk_is rfl rfl rfl
        · (intro wx hwx;go_simp;(try go_bits);first|exact gives_same|exact gives_skip)
        · (simp only [Act.put,sIB,sCS,sCZ];rfl))
     | (apply walk_not rfl rfl rfl
        · (simp only [Act.put,sIB,sCS,sCZ];rfl)))
 intro wz hwz
 simp only [zCC,zNR]
 repeat (first|rw [fin_is]|(rw [fin_cons];intro _ _))
 rw [fin_nil]
 try (replace hm:=hm.ext hwz)
 simp only [Act.put,sIB,sCS,sCZ]
 go_wp2_with fail
 refine(PT.out _ g5 _ _ hm.pull1 .hd).mono ?_
 rintro e_ w ⟨rfl,hm1⟩
 replace hm:=hm1
 clear hm1
 go_wp2_with fail
 refine rgE 2 29 ?_
 simp only [tSC,tZe,dSC,dZe,mCo,mNi]
 repeat (first
     | (apply walk_is rfl rfl rfl
        · (intro wx hwx;go_simp;(try go_bits);first|exact gives_same|exact gives_skip)
        · (simp only [Act.put,sIB,sCS,sCZ];rfl))
     | (apply walk_not rfl rfl rfl
        · (simp only [Act.put,sIB,sCS,sCZ];rfl)))
 intro wz hwz
 simp only [zCC,zNR]
 repeat (first|rw [fin_is]|(rw [fin_cons];intro _ _))
 rw [fin_nil]
 try (replace hm:=hm.ext hwz)
 simp only [Act.put,sIB,sCS,sCZ]
 go_wp2_with fail
 refine(PU.out _ g5 _ _ hm .hd).mono ?_
 rintro e_ w ⟨rfl,hm1⟩
 replace hm:=hm1
 clear hm1
 go_wp2_with (first|((with_reducible show qLd);first|(refine zB hm ?_))|((((with_reducible show qSt);first|(refine zE hm ?_)));clear hm;intro w hm))
 exact ret_own2 hm rfl rfl rfl (by infer_instance) (by repeat (first|exact Has.hd|assumption|apply Has.tl)) (by rw [List.length_map];exact lB) rfl ⟨rfl,hm.x⟩
theorem wq_mk268 {ops:Array Oper}{Q:Exit→Act→World→Prop}{rest:List Oper}{a:Act}{w0 w:World}{L:List Blk}{dst:Option Tmp}{ty:TypeId}{pos:String}{aft:Array Edge}{gd:Option (Nat×Bool)}(hm:Own w0 w L)(hgd:Region.wanted (Oper.mk dst (.makeSlice 165 (.const (.int .i64 268)) (.const (.int .i64 268))) ty pos aft gd) (yielded ops a.tmps)=true)
   (hr:∀g w',Own w0 w' (⟨g,70,(zer (n:=32) 268).map v32⟩::L)→wpList Tryz.prog ops Q rest (a.put dst (.slice (some ⟨g,0,none⟩) 268 268)) w'):wpList Tryz.prog ops Q ((Oper.mk dst (.makeSlice 165 (.const (.int .i64 268)) (.const (.int .i64 268))) ty pos aft gd)::rest) a w:=
 wpList_want hgd fun K hK=>by
   have hb:(execOp a.eval (Oper.mk dst (.makeSlice 165 (.const (.int .i64 268)) (.const (.int .i64 268))) ty pos aft gd)).run Tryz.prog w= .ok (.value (.slice (some ⟨w.heap.size,0,none⟩) 268 268)) (w.alloc (.cells ((zer (n:=32) 268).map v32).toArray 70)):=by kernel_rfl
   unfold Oper.wp
   rw [hb]
   exact hK _ _ (hr _ _ (hm.alloc 70 ((zer (n:=32) 268).map v32)))
def nhW(key:List Byte):List (BitVec 32):=tab 268 fun i=>wrd key (4*i)
theorem nhW_length(key:List Byte):(nhW key).length=268:=tab_length
theorem nwords_any(key:List Byte)(hk:key.length=1072)(p:Option Addr)(c:Nat)(w0:World)(hr:RdB w0 p key):Calls Tryz.prog 88 #[.slice p 1072 c] w0 fun e w'=>∃g,e= .returned (.tuple #[.slice (some ⟨g,0,none⟩) 268 268, .int .i64 0])∧w0.heap.size≤g∧Row w' g 70 ((nhW key).map v32)∧Ext w0 w':=by
 have hm:=Own.start w0
 have W1:=hid fun (k:Nat)(hk4:k<268)(w:World)(h:Ext w0 w)=>(show Gives Tryz.prog 84 #[.slice p 1072 c, .int .i64 (4*(k:Int))] w (v32 (wrd key (4*k)))from by
   have:=word_any key p c (4*(k:Int)) w (hr.ext h) (by omega) (by omega) (by omega)
   rw [hk]at this
   rw [wrd,show((4*k:Nat):Int)=4*(k:Int)from by omega]
   exact this)
 have EN:Hid (nhW key=part 268 268 (fun i=>wrd key (4*i)) fun _=>0):=hid part_all.symm
 have EZ:Hid (zer (n:=32) 268=part 268 0 (fun i=>wrd key (4*i)) fun _=>0):=hid zer_start
 generalize nhW key=NW at*
 clear hr hk
 go_enter Tryz.func88,Tryz.ntmps88
 go_wp2_with (first|((with_reducible apply wq_mk268 hm);exact rfl;clear hm;intro g1 w hm))
 rw [EZ.out]at hm
 go_loopw [12] (fun i wr=>∃k:Nat,k≤268∧i= .int .i64 k∧Own w0 wr [⟨g1,70,(part (n:=32) 268 k (fun i=>wrd key (4*i)) fun _=>0).map v32⟩]) (fun i _=>268-(intOf i).toNat)
 case atStart=>exact⟨0,by omega,rfl,hm⟩
 case round=>
   obtain⟨k,hk,rfl,hm⟩:=hrel
   by_cases hlt:k<268
   · have hd:decide ((k:Int)<268)=true:=decide_eq_true (by omega)
     have hd2:(k:Int)<268:=by omega
     have C1:=hid (W1.out k hlt)
     have PK:Hid (setN (part 268 k (fun i=>wrd key (4*i)) fun _=>0) k (wrd key (4*k))=part 268 (k+1) (fun i=>wrd key (4*i)) fun _=>0):=hid (part_set' hlt rfl)
     have lP:(part (n:=32) 268 k (fun i=>wrd key (4*i)) fun _=>0).length=268:=part_length
     generalize part 268 k (fun i=>wrd key (4*i)) (fun _=>0)=V at*
     generalize wrd key (4*k)=X at*
     go_wp2_with (first|(go_at_call 84;(with_reducible refine(C1.out _ hm.x).mono ?_);rintro e_ w ⟨rfl,hx_⟩;replace hm:=hm.ext hx_;clear hx_)|((((with_reducible show qSt);first|(refine zD hm ?_)));clear hm;intro w hm))
     go_roundw
     case rel=>
       rw [PK.out]at hm
       exact⟨k+1,by omega,by go_num,hm⟩
     case measure=>simp [intOf]<;>omega
   · obtain rfl:k=268:=by omega
     have hd:decide (((268:Nat):Int)<268)=false:=decide_eq_false (by omega)
     rw [←EN.out]at hm
     go_wp2_with fail
     go_ret2
     exact⟨g1,rfl,hm.base .hd,hm.row .hd,hm.x⟩
def nhS(W:List (BitVec 32))(b:List Byte):Nat→List (BitVec 64)
 |0=>zer 4
 |k+1=>tab 4 fun p=>nth (nhS W b k) p+(proN (wrd b (16*k)) (nth W (4*k+4*p)) (wrd b (16*k+8)) (nth W (4*k+4*p+2))+proN (wrd b (16*k+4)) (nth W (4*k+4*p+1)) (wrd b (16*k+12)) (nth W (4*k+4*p+3)))
theorem nhS_length(W:List (BitVec 32))(b:List Byte)(k:Nat):(nhS W b k).length=4:=by
 cases k with
 |zero=>exact zer_length
 |succ k=>exact tab_length
def p8F(cur:List Byte)(t:List (BitVec 64)):Nat→List Byte
 |0=>cur
 |k+1=>over (p8F cur t k) (8*k) (putL (nth t k) 8)
theorem p8F_length(cur:List Byte)(t:List (BitVec 64))(k:Nat)(h:8*k≤cur.length):(p8F cur t k).length=cur.length:=by
 induction k with
 |zero=>rfl
 | succ k ih=>
   have:=ih (by omega)
   rw [p8F,over,List.length_append,List.length_append,List.length_take,List.length_drop,putL_length];omega
def nhL(W:List (BitVec 32))(b:List Byte):List Byte:=p8F (zer 32) (nhS W b (b.length/16)) 4
theorem nhL_length(W:List (BitVec 32))(b:List Byte):(nhL W b).length=32:=by rw [nhL,p8F_length _ _ _ (by rw [zer_length];omega),zer_length]
theorem build_m(a b c d:BitVec 32)(w:World):(Instr.build 282 #[(0,v32 a),(1,v32 b),(2,v32 c),(3,v32 d)]).run Tryz.prog w= .ok (.agg ([a,b,c,d].map v32).toArray) w:=by kernel_rfl
theorem nhash_any(gw n:Nat)(W:List (BitVec 32))(b:List Byte)(hW:W.length=268)(hb:b.length=16*n)(hn:n≤64)(p:Option Addr)(c:Nat)(w0:World)(hr:RdB w0 p b)(hw:Row w0 gw 70 (W.map v32)):
   Gives Tryz.prog 195 #[.slice (some ⟨gw,0,none⟩) 268 268, .slice p b.length c] w0 (.tuple #[A8 (nhL W b), .int .i64 0]):=by
 unfold Gives
 have hm:=Own.start w0
 have W1:=hid fun (k:Nat)(e:Int)(he:e=(k:Int))(hk:k+4≤b.length)(w:World)(h:Ext w0 w)=>(show Gives Tryz.prog 84 #[.slice p b.length c, .int .i64 e] w (v32 (wrd b k))from by
   subst he
   exact word_any b p c (k:Int) w (hr.ext h) (by omega) (by omega) (by omega))
 have lR:=nhL_length W b
 have ER:Hid (nhL W b=p8F (zer 32) (nhS W b n) 4):=hid (by rw [nhL,hb,Nat.mul_comm,Nat.mul_div_cancel _ (by omega)])
 have S0:Hid (nhS W b 0=zer 4):=hid rfl
 have SK:=hid fun k=>(show nhS W b (k+1)=part 4 4 (fun p=>nth (nhS W b k) p+(proN (wrd b (16*k)) (nth W (4*k+4*p)) (wrd b (16*k+8)) (nth W (4*k+4*p+2))+proN (wrd b (16*k+4)) (nth W (4*k+4*p+1)) (wrd b (16*k+12)) (nth W (4*k+4*p+3)))) (nth (nhS W b k))from part_all.symm)
 have LS:=hid (nhS_length W b)
 have RW:=hid fun wx (h:Ext w0 wx)=>row_ext hw h
 have EW:=hid fun k (h:k<268)=>(show(W.map v32)[k]? =some (v32 (nth W k))from map32_at _ (by omega))
 generalize nhL W b=RES at*
 generalize nhS W b=S at*
 have BM:=hid build_m
 have hb1:((b.length:Nat):Int)≤1024:=by omega
 generalize hL:b.length=L at*
 have hm16:(L:Int).tmod 16=0:=by subst hb;rw [Int.tmod_eq_emod_of_nonneg (by omega)];omega
 have hq:(L:Int).tdiv 16=(n:Int):=by subst hb;rw [Int.tdiv_eq_ediv_of_nonneg (by omega)];omega
 have hn1:(n:Int)≤64:=by omega
 have g1_:¬(1024:Int)<(L:Int):=by omega
 have g2_:decide ((L:Int)>1024)=false:=decide_eq_false (by omega)
 have g3_:¬(268:Int)<(n:Int)*4+12:=by omega
 have g4_:decide ((268:Int)<(n:Int)*4+12)=false:=decide_eq_false (by omega)
 have HLB:=hid hb
 clear hr hw hL hb
 go_enter Tryz.func195,Tryz.ntmps195
 go_wp2_with (first|((first|((with_reducible show qAl);first|(refine zG hm ?_)));clear hm;(first|(have hx_:=g1;clear hx_;(first|(have hx_:=g2;clear hx_;intro gx_)|intro g2))|intro g1);intro w hm))
 refine wp_scope_goto 0 (fun a_ w_=>∃(k ga gs:Nat)(A:Int)(u2 u3 u9 u10 u11 u12 u13 u14 u15 u16 u17 u18 u19 u20 u21 u22 u23 u24 u25 u26 u27 u28 u29 u30 u31 u32 u33 u34 u35 u36 u37 u38 u39 u40 u41 u42 u43 u44 u45 u46 u47 u48 u49 u50 u51 u52 u53 u54 u55 u56 u57 u58 u59 u60 u61 u62 u63 u64 u65 u66 u67 u68 u69 u70 u71 u72 u73 u74 u75 u76 u77 u78 u79 u80 u81 u82 u83 u84 u85 u86 u87 u88 u89 u90 u91 u92 u93 u94 u95 u96 u97 u98 u99 u100 u101 u102 u103 u104 u105 u106 u107 u108 u109 u110 u111:Value),a_={tmps:= #[(.slice (some ⟨gw,0,none⟩) 268 268),(.slice p L c),u2,u3,(.pointer (some ⟨g1,0,none⟩)),(.int .i64 0),(.pointer (some ⟨ga,0,none⟩)),(.pointer (some ⟨gs,0,none⟩)),(.int .i64 A),u9,u10,u11,u12,u13,u14,u15,u16,u17,u18,u19,u20,u21,u22,u23,u24,u25,u26,u27,u28,u29,u30,u31,u32,u33,u34,u35,u36,u37,u38,u39,u40,u41,u42,u43,u44,u45,u46,u47,u48,u49,u50,u51,u52,u53,u54,u55,u56,u57,u58,u59,u60,u61,u62,u63,u64,u65,u66,u67,u68,u69,u70,u71,u72,u73,u74,u75,u76,u77,u78,u79,u80,u81,u82,u83,u84,u85,u86,u87,u88,u89,u90,u91,u92,u93,u94,u95,u96,u97,u98,u99,u100,u101,u102,u103,u104,u105,u106,u107,u108,u109,u110,u111],defers:=[]}∧Own w0 w_ [⟨gs,281,(S k).map v64⟩,⟨ga,121,(zer 32).map v8⟩,⟨g1,121,(zer 32).map v8⟩]∧A=16*(k:Int)∧k≤n) (fun a_ _=>L-(intOf (a_.tmps.getD 8 undef)).toNat) rfl ?_ ?_
 · clear hm
   have key_:∀(P_:Act→World→Prop),(∀(w_:World)(k ga gs:Nat)(A:Int)(u2 u3 u9 u10 u11 u12 u13 u14 u15 u16 u17 u18 u19 u20 u21 u22 u23 u24 u25 u26 u27 u28 u29 u30 u31 u32 u33 u34 u35 u36 u37 u38 u39 u40 u41 u42 u43 u44 u45 u46 u47 u48 u49 u50 u51 u52 u53 u54 u55 u56 u57 u58 u59 u60 u61 u62 u63 u64 u65 u66 u67 u68 u69 u70 u71 u72 u73 u74 u75 u76 u77 u78 u79 u80 u81 u82 u83 u84 u85 u86 u87 u88 u89 u90 u91 u92 u93 u94 u95 u96 u97 u98 u99 u100 u101 u102 u103 u104 u105 u106 u107 u108 u109 u110 u111:Value),Own w0 w_ [⟨gs,281,(S k).map v64⟩,⟨ga,121,(zer 32).map v8⟩,⟨g1,121,(zer 32).map v8⟩]∧A=16*(k:Int)∧k≤n→P_ {tmps:= #[(.slice (some ⟨gw,0,none⟩) 268 268),(.slice p L c),u2,u3,(.pointer (some ⟨g1,0,none⟩)),(.int .i64 0),(.pointer (some ⟨ga,0,none⟩)),(.pointer (some ⟨gs,0,none⟩)),(.int .i64 A),u9,u10,u11,u12,u13,u14,u15,u16,u17,u18,u19,u20,u21,u22,u23,u24,u25,u26,u27,u28,u29,u30,u31,u32,u33,u34,u35,u36,u37,u38,u39,u40,u41,u42,u43,u44,u45,u46,u47,u48,u49,u50,u51,u52,u53,u54,u55,u56,u57,u58,u59,u60,u61,u62,u63,u64,u65,u66,u67,u68,u69,u70,u71,u72,u73,u74,u75,u76,u77,u78,u79,u80,u81,u82,u83,u84,u85,u86,u87,u88,u89,u90,u91,u92,u93,u94,u95,u96,u97,u98,u99,u100,u101,u102,u103,u104,u105,u106,u107,u108,u109,u110,u111],defers:=[]} w_)→∀(a_:Act)(w_:World),(∃(k ga gs:Nat)(A:Int)(u2 u3 u9 u10 u11 u12 u13 u14 u15 u16 u17 u18 u19 u20 u21 u22 u23 u24 u25 u26 u27 u28 u29 u30 u31 u32 u33 u34 u35 u36 u37 u38 u39 u40 u41 u42 u43 u44 u45 u46 u47 u48 u49 u50 u51 u52 u53 u54 u55 u56 u57 u58 u59 u60 u61 u62 u63 u64 u65 u66 u67 u68 u69 u70 u71 u72 u73 u74 u75 u76 u77 u78 u79 u80 u81 u82 u83 u84 u85 u86 u87 u88 u89 u90 u91 u92 u93 u94 u95 u96 u97 u98 u99 u100 u101 u102 u103 u104 u105 u106 u107 u108 u109 u110 u111:Value),a_={tmps:= #[(.slice (some ⟨gw,0,none⟩) 268 268),(.slice p L c),u2,u3,(.pointer (some ⟨g1,0,none⟩)),(.int .i64 0),(.pointer (some ⟨ga,0,none⟩)),(.pointer (some ⟨gs,0,none⟩)),(.int .i64 A),u9,u10,u11,u12,u13,u14,u15,u16,u17,u18,u19,u20,u21,u22,u23,u24,u25,u26,u27,u28,u29,u30,u31,u32,u33,u34,u35,u36,u37,u38,u39,u40,u41,u42,u43,u44,u45,u46,u47,u48,u49,u50,u51,u52,u53,u54,u55,u56,u57,u58,u59,u60,u61,u62,u63,u64,u65,u66,u67,u68,u69,u70,u71,u72,u73,u74,u75,u76,u77,u78,u79,u80,u81,u82,u83,u84,u85,u86,u87,u88,u89,u90,u91,u92,u93,u94,u95,u96,u97,u98,u99,u100,u101,u102,u103,u104,u105,u106,u107,u108,u109,u110,u111],defers:=[]}∧Own w0 w_ [⟨gs,281,(S k).map v64⟩,⟨ga,121,(zer 32).map v8⟩,⟨g1,121,(zer 32).map v8⟩]∧A=16*(k:Int)∧k≤n)→P_ a_ w_:=
     fun P_ h_ a_ w_ z=>z.elim fun k z=>z.elim fun ga z=>z.elim fun gs z=>z.elim fun A z=>z.elim fun u2 z=>z.elim fun u3 z=>z.elim fun u9 z=>z.elim fun u10 z=>z.elim fun u11 z=>z.elim fun u12 z=>z.elim fun u13 z=>z.elim fun u14 z=>z.elim fun u15 z=>z.elim fun u16 z=>z.elim fun u17 z=>z.elim fun u18 z=>z.elim fun u19 z=>z.elim fun u20 z=>z.elim fun u21 z=>z.elim fun u22 z=>z.elim fun u23 z=>z.elim fun u24 z=>z.elim fun u25 z=>z.elim fun u26 z=>z.elim fun u27 z=>z.elim fun u28 z=>z.elim fun u29 z=>z.elim fun u30 z=>z.elim fun u31 z=>z.elim fun u32 z=>z.elim fun u33 z=>z.elim fun u34 z=>z.elim fun u35 z=>z.elim fun u36 z=>z.elim fun u37 z=>z.elim fun u38 z=>z.elim fun u39 z=>z.elim fun u40 z=>z.elim fun u41 z=>z.elim fun u42 z=>z.elim fun u43 z=>z.elim fun u44 z=>z.elim fun u45 z=>z.elim fun u46 z=>z.elim fun u47 z=>z.elim fun u48 z=>z.elim fun u49 z=>z.elim fun u50 z=>z.elim fun u51 z=>z.elim fun u52 z=>z.elim fun u53 z=>z.elim fun u54 z=>z.elim fun u55 z=>z.elim fun u56 z=>z.elim fun u57 z=>z.elim fun u58 z=>z.elim fun u59 z=>z.elim fun u60 z=>z.elim fun u61 z=>z.elim fun u62 z=>z.elim fun u63 z=>z.elim fun u64 z=>z.elim fun u65 z=>z.elim fun u66 z=>z.elim fun u67 z=>z.elim fun u68 z=>z.elim fun u69 z=>z.elim fun u70 z=>z.elim fun u71 z=>z.elim fun u72 z=>z.elim fun u73 z=>z.elim fun u74 z=>z.elim fun u75 z=>z.elim fun u76 z=>z.elim fun u77 z=>z.elim fun u78 z=>z.elim fun u79 z=>z.elim fun u80 z=>z.elim fun u81 z=>z.elim fun u82 z=>z.elim fun u83 z=>z.elim fun u84 z=>z.elim fun u85 z=>z.elim fun u86 z=>z.elim fun u87 z=>z.elim fun u88 z=>z.elim fun u89 z=>z.elim fun u90 z=>z.elim fun u91 z=>z.elim fun u92 z=>z.elim fun u93 z=>z.elim fun u94 z=>z.elim fun u95 z=>z.elim fun u96 z=>z.elim fun u97 z=>z.elim fun u98 z=>z.elim fun u99 z=>z.elim fun u100 z=>z.elim fun u101 z=>z.elim fun u102 z=>z.elim fun u103 z=>z.elim fun u104 z=>z.elim fun u105 z=>z.elim fun u106 z=>z.elim fun u107 z=>z.elim fun u108 z=>z.elim fun u109 z=>z.elim fun u110 z=>z.elim fun u111 z=>Eq.subst (motive:=fun z_=>P_ z_ w_) z.1.symm (h_ w_ k ga gs A u2 u3 u9 u10 u11 u12 u13 u14 u15 u16 u17 u18 u19 u20 u21 u22 u23 u24 u25 u26 u27 u28 u29 u30 u31 u32 u33 u34 u35 u36 u37 u38 u39 u40 u41 u42 u43 u44 u45 u46 u47 u48 u49 u50 u51 u52 u53 u54 u55 u56 u57 u58 u59 u60 u61 u62 u63 u64 u65 u66 u67 u68 u69 u70 u71 u72 u73 u74 u75 u76 u77 u78 u79 u80 u81 u82 u83 u84 u85 u86 u87 u88 u89 u90 u91 u92 u93 u94 u95 u96 u97 u98 u99 u100 u101 u102 u103 u104 u105 u106 u107 u108 u109 u110 u111 z.2)
   refine key_ _ ?_
   clear key_
   intro w k ga gs A u2 u3 u9 u10 u11 u12 u13 u14 u15 u16 u17 u18 u19 u20 u21 u22 u23 u24 u25 u26 u27 u28 u29 u30 u31 u32 u33 u34 u35 u36 u37 u38 u39 u40 u41 u42 u43 u44 u45 u46 u47 u48 u49 u50 u51 u52 u53 u54 u55 u56 u57 u58 u59 u60 u61 u62 u63 u64 u65 u66 u67 u68 u69 u70 u71 u72 u73 u74 u75 u76 u77 u78 u79 u80 u81 u82 u83 u84 u85 u86 u87 u88 u89 u90 u91 u92 u93 u94 u95 u96 u97 u98 u99 u100 u101 u102 u103 u104 u105 u106 u107 u108 u109 u110 u111
   rintro ⟨hm,hA,hk⟩
   have hA0:(0:Int)≤A:=by omega
   have hA1:A≤1024:=by omega
   have t0:A.tdiv 16=(k:Int):=by rw [hA,Int.tdiv_eq_ediv_of_nonneg (by omega)];omega
   by_cases hlt:k<n
   · have hd : decide (A<(L:Int))=true:=decide_eq_true (by rw [HLB.out];omega)
     have hd2:A<(L:Int):=by rw [HLB.out];omega
     have C0:=hid fun w h=>W1.out (16*k) A (by omega) (by rw [HLB.out];omega) w h
     have C1:=hid fun w h=>W1.out (16*k+4) (A+4) (by omega) (by rw [HLB.out];omega) w h
     have C2:=hid fun w h=>W1.out (16*k+8) (A+8) (by omega) (by rw [HLB.out];omega) w h
     have C3:=hid fun w h=>W1.out (16*k+12) (A+12) (by omega) (by rw [HLB.out];omega) w h
     have lS:=LS.out k
     obtain⟨m0,h0_⟩:=exq (wrd b (16*k))
     obtain⟨m1,h1_⟩:=exq (wrd b (16*k+4))
     obtain⟨m2,h2_⟩:=exq (wrd b (16*k+8))
     obtain⟨m3,h3_⟩:=exq (wrd b (16*k+12))
     obtain⟨MM,hMM⟩:=exq ([m0,m1,m2,m3])
     obtain⟨f,hf⟩:∃f,f=fun p=>nth (S k) p+(proN (nth MM 0) (nth W (4*k+4*p)) (nth MM 2) (nth W (4*k+4*p+2))+proN (nth MM 1) (nth W (4*k+4*p+1)) (nth MM 3) (nth W (4*k+4*p+3))):=⟨_,rfl⟩
     have SKk:Hid (S (k+1)=part 4 4 f (nth (S k))):=hid (by rw [SK.out k,hf,hMM,←h0_,←h1_,←h2_,←h3_];rfl)
     have BMk:=hid (BM.out m0 m1 m2 m3)
     rw [←hMM]at BMk
     rw [←h0_]at C0
     rw [←h1_]at C1
     rw [←h2_]at C2
     rw [←h3_]at C3
     have lM:MM.length=4:=by rw [hMM];rfl
     clear h0_ h1_ h2_ h3_ hMM
     obtain⟨V,hV⟩:=exq (S k)
     rw [←hV]at SKk lS hm hf
     clear hV
     have HF:=hid hf
     have V0:Hid (V=part 4 0 f (nth V)):=hid (part_start lS)
     have HA:=hid hA
     have HLT:=hid hlt
     clear hf hA
     go_wp2_with (first|(go_at_call 84;(with_reducible refine(C0.out _ hm.x).mono ?_);rintro e_ w ⟨rfl,hx_⟩;replace hm:=hm.ext hx_;clear hx_)|(go_at_call 84;(with_reducible refine(C1.out _ hm.x).mono ?_);rintro e_ w ⟨rfl,hx_⟩;replace hm:=hm.ext hx_;clear hx_)|(go_at_call 84;(with_reducible refine(C2.out _ hm.x).mono ?_);rintro e_ w ⟨rfl,hx_⟩;replace hm:=hm.ext hx_;clear hx_)|(go_at_call 84;(with_reducible refine(C3.out _ hm.x).mono ?_);rintro e_ w ⟨rfl,hx_⟩;replace hm:=hm.ext hx_;clear hx_)|((with_reducible apply wq_build4 BMk.out);exact rfl;exact rfl;exact rfl;exact rfl;exact rfl)|((((with_reducible show qSt);first|(refine zE hm ?_)));clear hm;intro w hm)|((first|((with_reducible show qAl);first|(refine zG hm ?_)));clear hm;(first|(have hx_:=g1;clear hx_;(first|(have hx_:=g2;clear hx_;intro gx_)|intro g2))|intro g1);intro w hm))
     rw [V0.out]at hm
     go_loopw [56] (fun vi wr=>∃q:Nat,q≤4∧vi= .int .i64 q∧Own w0 wr [⟨g2,282,MM.map v32⟩,⟨gs,281,(part 4 q f (nth V)).map v64⟩,⟨ga,121,(zer 32).map v8⟩,⟨g1,121,(zer 32).map v8⟩]) (fun vi _=>4-(intOf vi).toNat)
     case atStart=>exact⟨0,by omega,rfl,hm⟩
     case round =>
       obtain⟨q,hq4,rfl,hm⟩:=hrel
       by_cases hql:q<4
       · have hd:decide ((q:Int)<4)=true:=decide_eq_true (by omega)
         have hd2:(q:Int)<4:=by omega
         obtain⟨O,hO⟩:∃O,O=4*k+4*q:=⟨_,rfl⟩
         have PS:Hid (setN (part 4 q f (nth V)) q (nth (part 4 q f (nth V)) q+(proN (nth MM 0) (nth W O) (nth MM 2) (nth W (O+2))+proN (nth MM 1) (nth W (O+1)) (nth MM 3) (nth W (O+3))))=part 4 (q+1) f (nth V)):=hid (by
           rw [nth_part_ge hql (Nat.le_refl _),hO]
           exact part_set' hql (by rw [HF.out]))
         have O1:O+4≤268:=by have:=HLT.out;omega
         have t1:((k:Int)*4+(q:Int)*4).toNat=O:=by omega
         have x1:(0:Int)≤(k:Int)*4+(q:Int)*4:=by omega
         have x2:(k:Int)*4+(q:Int)*4≤268:=by omega
         have x3:¬268=O:=by omega
         obtain⟨LN,hLN⟩:∃x,268-O=x:=⟨_,rfl⟩
         have z0:0<LN:=by omega
         have z1:1<LN:=by omega
         have z2:2<LN:=by omega
         have z3:3<LN:=by omega
         have y0:(0:Int)<(LN:Int):=by omega
         have y1:(1:Int)<(LN:Int):=by omega
         have y2:(2:Int)<(LN:Int):=by omega
         have y3:(3:Int)<(LN:Int):=by omega
         have e0:=hid (EW.out O (by omega))
         have e1:=hid (EW.out (O+1) (by omega))
         have e2:=hid (EW.out (O+2) (by omega))
         have e3:=hid (EW.out (O+3) (by omega))
         have P1:=hid fun wx=>Gives.of_same (product_any (nth MM 0) (nth W O) (nth MM 2) (nth W (O+2)) wx)
         have P2:=hid fun wx=>Gives.of_same (product_any (nth MM 1) (nth W (O+1)) (nth MM 3) (nth W (O+3)) wx)
         have lP:(part 4 q f (nth V)).length=4:=part_length
         obtain⟨PV,hPV⟩:=exq (part 4 q f (nth V))
         rw [←hPV]at PS lP hm
         clear hPV hO
         go_wp2_with fail
         have R1:=hid fun wx (h:Ext wr wx)=>RW.out wx (hm.x.trans h)
         refine rgE 28 112 ?_
         simp only [tSC,tZe,dSC,dZe,mCo,mNi]
         repeat (first
             | (apply walk_is rfl rfl rfl
                · (intro wx hwx;(with_reducible apply gq_row1 ((R1.out) wx hwx));infer_instance;exact rfl;(first|exact e0.out|exact e1.out|exact e2.out|exact e3.out))
                · (simp only [Act.put,sIB,sCS,sCZ];rfl))
             | (apply walk_is rfl rfl rfl
                · (intro wx hwx;first|((with_reducible show qGl);first|(exact zJ (hm.ext hwx)))|(go_simp;(try go_bits);first|exact gives_same|exact gives_skip|with_reducible exact gives_call (P1.out wx)|with_reducible exact gives_call (P2.out wx)))
                · (simp only [Act.put,sIB,sCS,sCZ];rfl))
             | (apply walk_not rfl rfl rfl
                · (simp only [Act.put,sIB,sCS,sCZ];rfl)))
         intro wz hwz
         simp only [zCC,zNR]
         repeat (first|rw [fin_is]|(rw [fin_cons];intro _ _))
         rw [fin_nil]
         try (replace hm:=hm.ext hwz)
         simp only [Act.put,sIB,sCS,sCZ]
         go_wp2_with (first|((((with_reducible show qSt);first|(refine zD hm ?_)));clear hm;intro w hm))
         go_roundw
         case rel=>exact⟨q+1,by omega,by go_num,by rw [←PS.out];exact hm⟩
         case measure=>simp [intOf]<;>omega
       · obtain rfl:q=4:=by omega
         have hd:decide (((4:Nat):Int)<4)=false:=decide_eq_false (by omega)
         rw [←SKk.out]at hm
         go_wp2_with fail
         go_step3
         refine⟨rfl,⟨_,_,_,_,_,_,_,_,_,_,_,_,_,_,_,_,_,_,_,_,_,_,_,_,_,_,_,_,_,_,_,_,_,_,_,_,_,_,_,_,_,_,_,_,_,_,_,_,_,_,_,_,_,_,_,_,_,_,_,_,_,_,_,_,_,_,_,_,_,_,_,_,_,_,_,_,_,_,_,_,_,_,_,_,_,_,_,_,_,_,_,_,_,_,_,_,_,_,_,_,_,_,_,_,_,_,_,_,_,rfl,⟨hm.drop,by have:=HA.out;omega,by have:=HLT.out;omega⟩⟩, ?_⟩
         simp [intOf]
         have:=HA.out
         have:=HLT.out
         have:=HLB.out
         omega
   · obtain rfl :k=n:=by omega
     have hd:decide (A<(L:Int))=false:=decide_eq_false (by rw [HLB.out];omega)
     have hd2:¬A<(L:Int):=by rw [HLB.out];omega
     have lS:=LS.out k
     obtain⟨V,hV⟩:=exq (S k)
     rw [←hV]at ER lS hm
     clear hV
     have lV:=lS
     go_wp2_with (first|((with_reducible show qLd);first|(refine zB hm ?_)))
     have P0:Hid (p8F (zer 32) V 0=zer 32):=hid rfl
     have PK:=hid fun k m (h:8≤m)=>(show over (p8F (zer 32) V k) (8*k) ((putL (nth V k) 8).take m)=p8F (zer 32) V (k+1)from by rw [List.take_of_length_le (by rw [putL_length];exact h)];rfl)
     have LP:=hid fun k (h:k≤4)=>(show(p8F (zer 32) V k).length=32 by rw [p8F_length _ _ _ (by rw [zer_length];omega),zer_length])
     obtain⟨F,hF⟩:∃F,F=p8F (zer 32) V:=⟨_,rfl⟩
     rw [←hF]at P0 PK LP ER
     clear hF
     rw [←P0.out]at hm
     go_loopw [99] (fun vi wr=>∃q:Nat,q≤4∧vi= .int .i64 q∧Own w0 wr [⟨gs,281,V.map v64⟩,⟨ga,121,(F q).map v8⟩,⟨g1,121,(F 0).map v8⟩]) (fun vi _=>4-(intOf vi).toNat)
     case atStart=>exact⟨0,by omega,rfl,hm⟩
     case round =>
       obtain⟨q,hq4,rfl,hm⟩:=hrel
       have lF:=LP.out q hq4
       by_cases hql:q<4
       · have hd:decide ((q:Int)<4)=true:=decide_eq_true (by omega)
         have hd2:(q:Int)<4:=by omega
         have PKq:=hid (PK.out q)
         obtain⟨FQ,hFQ⟩:=exq (F q)
         rw [←hFQ]at PKq lF hm
         clear hFQ
         have s0:(0:Int)≤8*(q:Int):=by omega
         have s1:8*(q:Int)≤32:=by omega
         have s2:(8*(q:Int)).toNat=8*q:=by omega
         have s3:¬32=8*q:=by omega
         go_wp2_with (first|((with_reducible apply wq_idx (l:=V) (k:=q) Tryz.underlying281);infer_instance;exact rfl;exact rfl;exact rfl;exact lS;exact hql)|(go_at_call 11;(with_reducible refine(putlong_any' _ _).mono ?_);rintro e_ w ⟨rfl,hx_⟩;replace hm:=hm.ext hx_;clear hx_)|((((with_reducible show qSt);first|(refine zE hm ?_)));clear hm;intro w hm)|((first|((with_reducible show qAl);first|(refine zG hm ?_)));clear hm;(first|(have hx_:=g1;clear hx_;(first|(have hx_:=g2;clear hx_;intro gx_)|intro g2))|intro g1);intro w hm))
         refine rgE 4 112 ?_
         simp only [tSC,tZe,dSC,dZe,mCo,mNi]
         repeat (first
             | (apply walk_is rfl rfl rfl
                · (intro wx hwx;go_simp;(try go_bits);first|exact gives_same|exact gives_skip)
                · (simp only [Act.put,sIB,sCS,sCZ];rfl))
             | (apply walk_not rfl rfl rfl
                · (simp only [Act.put,sIB,sCS,sCZ];rfl)))
         intro wz hwz
         simp only [zCC,zNR]
         repeat (first|rw [fin_is]|(rw [fin_cons];intro _ _))
         rw [fin_nil]
         try (replace hm:=hm.ext hwz)
         simp only [Act.put,sIB,sCS,sCZ]
         ((with_reducible show wpList _ _ _ (Oper.mk _ (Op.call _) _ _ _ _::_) _ _);refine wpl_cp8 hm rfl rfl rfl rfl Tryz.underlying22 (by kernel_rfl) (by repeat (first|exact Swap.hd|assumption|apply Swap.tl)) (hm.rdB (l:=putL (nth V q) 8) .hd) (putL_length _ _).symm ((PKq.out _ (by omega))) (by omega) ?_;clear hm;intro w hm)
         go_wp2_with fail
         go_roundw
         case rel=>exact⟨q+1,by omega,by go_num,hm.drop⟩
         case measure=>simp [intOf]<;>omega
       · obtain rfl:q=4:=by omega
         have hd:decide (((4:Nat):Int)<4)=false:=decide_eq_false (by omega)
         rw [←ER.out]at hm
         have l0:=LP.out 0 (by omega)
         have l1:=Nat.le_of_eq l0
         have l2:=Nat.le_of_eq l0.symm
         have l3:=Nat.le_of_eq lR
         have l4:=Nat.le_of_eq lR.symm
         go_wp2_with (first|((with_reducible show qLd);first|(refine zB hm ?_))|((((with_reducible show qSt);first|(refine zE hm ?_)));clear hm;intro w hm))
         try simp only [Exit.jump]
         exact ret_own2 hm rfl rfl rfl (by infer_instance) (by repeat (first|exact Has.hd|assumption|apply Has.tl)) (by rw [List.length_map];exact lR) rfl ⟨rfl,hm.x⟩
 · intro hp
   go_wp2_with (first|((first|((with_reducible show qAl);first|(refine zG hm ?_)));clear hm;(first|(have hx_:=g1;clear hx_;(first|(have hx_:=g2;clear hx_;intro gx_)|intro g2))|intro g1);intro w hm))
   go_step3
   rename_i hK
   exact hK _ _ (hp _ _ ⟨_,_,_,_,_,_,_,_,_,_,_,_,_,_,_,_,_,_,_,_,_,_,_,_,_,_,_,_,_,_,_,_,_,_,_,_,_,_,_,_,_,_,_,_,_,_,_,_,_,_,_,_,_,_,_,_,_,_,_,_,_,_,_,_,_,_,_,_,_,_,_,_,_,_,_,_,_,_,_,_,_,_,_,_,_,_,_,_,_,_,_,_,_,_,_,_,_,_,_,_,_,_,_,_,_,_,_,_,_,rfl,⟨by rw [S0.out];exact hm,rfl,Nat.zero_le _⟩⟩)
def twL(n:Nat):List Byte:=putL (BitVec.ofNat 64 n) 8++putL 0#64 8
theorem v64_nat(n:Nat)(h:n<18446744073709551616):v64 (BitVec.ofNat 64 n)= .int .u64 (n:Int):=by
 show Value.int .u64 ((BitVec.ofNat 64 n).toNat:Int)=_
 rw [BitVec.toNat_ofNat,Nat.mod_eq_of_lt h]
theorem least3(g:Nat)(t:TypeId)(v:Value)(w0:World)(h:Row w0 g t [.int .i64 3,v]):Calls Tryz.prog 39 #[.pointer (some ⟨g,0,none⟩)] w0 fun e w'=>e= .returned (.int .i64 1)∧w0=w':=by
 have c1:w0.cell? ⟨g,0,none⟩=some (.int .i64 3):=by rw [row_cell h];rfl
 go_enter Tryz.func39,Tryz.ntmps39
 go_wp2
 go_ret
 exact⟨rfl,rfl⟩
theorem least12(g:Nat)(t:TypeId)(v:Value)(a:Int)(ha:a=1∨a=2)(w0:World)(h:Row w0 g t [.int .i64 a,v]):Calls Tryz.prog 39 #[.pointer (some ⟨g,0,none⟩)] w0 fun e w'=>e= .returned (.int .i64 16)∧w0=w':=by
 have c1:w0.cell? ⟨g,0,none⟩=some (.int .i64 a):=by rw [row_cell h];rfl
 rcases ha with rfl|rfl
 · go_enter Tryz.func39,Tryz.ntmps39
   go_wp2
   go_ret
   exact⟨rfl,rfl⟩
 · go_enter Tryz.func39,Tryz.ntmps39
   go_wp2
   go_ret
   exact⟨rfl,rfl⟩
theorem awrong_any(g:Nat)(p:Option Addr)(n c:Nat)(hn:16≤n)(w:World):Calls Tryz.prog 175 #[.pointer (some ⟨g,0,none⟩), .slice p n c] w fun e w'=>e= .returned (.int .i64 0)∧w=w':=by
 have d1:decide ((n:Int)<16)=false:=decide_eq_false (by omega)
 have d2:¬(n:Int)<16:=by omega
 go_enter Tryz.func175,Tryz.ntmps175
 go_wp2
 go_ret
 exact⟨rfl,rfl⟩
def akC(tw ms:List Byte)(gw:Nat):List Value:=tw.map v8++(ms.map v8++[.slice (some ⟨gw,0,none⟩) 268 268])
def AdR(w:World)(g:Nat)(tw ms:List Byte)(W:List (BitVec 32)):Prop:=∃gw,Row w g 169 (akC tw ms gw)∧Row w gw 70 (W.map v32)∧tw.length=16∧ms.length=16∧W.length=268
theorem AdR.ext {w w':World}{g:Nat}{tw ms:List Byte}{W:List (BitVec 32)}(h:AdR w g tw ms W)(hx:Ext w w'):AdR w' g tw ms W:=by
 obtain⟨gw,h1,h2,h3⟩:=h
 exact⟨gw,row_ext h1 hx,row_ext h2 hx,h3⟩
theorem akC_tw(tw ms:List Byte)(gw:Nat)(h1:tw.length=16):((akC tw ms gw).drop 0).take 16=tw.map v8:=by
 rw [dZe,akC];exact List.take_left' (by simp [h1])
theorem akC_ms(tw ms:List Byte)(gw:Nat)(h1:tw.length=16)(h2:ms.length=16):((akC tw ms gw).drop 16).take 16=ms.map v8:=by
 rw [akC,List.drop_left' (by simp [h1])];exact List.take_left' (by simp [h2])
theorem akC_w(tw ms:List Byte)(gw:Nat)(h1:tw.length=16)(h2:ms.length=16):(akC tw ms gw)[32]? =some (.slice (some ⟨gw,0,none⟩) 268 268):=by
 rw [akC,List.getElem?_append_right (by simp [h1]),List.getElem?_append_right (by simp [h1,h2])];simp [h1,h2]
theorem build_ak(tw ms:List Byte)(gw:Nat)(h1:tw.length=16)(h2:ms.length=16)(w:World):(Instr.build 169 #[(0,A8 tw),(1,A8 ms),(2, .slice (some ⟨gw,0,none⟩) 268 268)]).run Tryz.prog w= .ok (.agg (akC tw ms gw).toArray) w:=by
 obtain⟨a0,a1,a2,a3,a4,a5,a6,a7,a8,a9,a10,a11,a12,a13,a14,a15,rfl⟩:=len16 tw h1
 obtain⟨b0,b1,b2,b3,b4,b5,b6,b7,b8,b9,b10,b11,b12,b13,b14,b15,rfl⟩:=len16 ms h2
 kernel_rfl
theorem build_wide2(lo hi:Int)(w:World):(Instr.build 191 #[(0, .int .u64 lo),(1, .int .u64 hi)]).run Tryz.prog w= .ok (.agg #[.int .u64 lo, .int .u64 hi]) w:=by kernel_rfl
theorem adnew_any(key:List Byte)(hk:key.length=1104)(p:Option Addr)(c:Nat)(hc:1104≤c)(w0:World)(hr:RdB w0 p key):Calls Tryz.prog 66 #[.slice p 1104 c] w0 fun e w'=>∃g,e= .returned (.tuple #[.pointer (some ⟨g,0,none⟩), .int .i64 0])∧w0.heap.size≤g∧∃L,Own w0 w' L∧Keeps L (fun _=>True) (fun wx=>AdR wx g (blk key) (blk (key.drop 16)) (nhW (key.drop 32))):=by
 have hm:=Own.start w0
 have l32:(key.drop 32).length=1072:=by rw [List.length_drop,hk]
 have NW:=hid fun w (hx:Ext w0 w)=>nwords_any (key.drop 32) l32 (slP p c 32) (c-32) w ((hr.ext hx).slL c 32 (by omega))
 have B1:=hid fun w (hx:Ext w0 w)=>(show Gives Tryz.prog 69 #[.slice p 1104 c] w (A8 (blk key))from by have:=oblock_any key p c w (hr.ext hx);rwa [hk]at this)
 have B2:=hid fun w (hx:Ext w0 w)=>(show Gives Tryz.prog 69 #[.slice (slP p c 16) 1088 (c-16)] w (A8 (blk (key.drop 16)))from by have:=oblock_any (key.drop 16) (slP p c 16) (c-16) w ((hr.ext hx).slL c 16 (by omega));rwa [show(key.drop 16).length=1088 from by rw [List.length_drop,hk]]at this)
 have l1:=blk_length key
 have l2:=blk_length (key.drop 16)
 have l3:=nhW_length (key.drop 32)
 obtain⟨X,hX⟩:=exq (blk key)
 obtain⟨Y,hY⟩:=exq (blk (key.drop 16))
 obtain⟨Z,hZ⟩:=exq (nhW (key.drop 32))
 rw [←hX]at B1 l1⊢
 rw [←hY]at B2 l2⊢
 rw [←hZ]at NW l3⊢
 have BA:=hid fun gw w=>build_ak X Y gw l1 l2 w
 have L3:=hid l3
 have c2:(1104:Int)≤(c:Int):=by omega
 clear hr hk l32 hX hY hZ l3
 go_enter Tryz.func66,Tryz.ntmps66
 go_wp2_with (first|((with_reducible apply wq_slL (l:=32) (r:=1072) Tryz.underlying22);infer_instance;exact rfl;exact rfl;exact rfl;exact(by omega);exact rfl)|(go_at_call 88;(with_reducible refine(NW.out _ hm.x).mono ?_);rintro e_ w ⟨gw,rfl,hg_,hr_,hx_⟩;replace hm:=hm.push hx_ hg_ hr_;clear hx_ hg_ hr_))
 have BG:=hid (BA.out gw)
 have hx0:=hm.x
 have b1:=fun wx (h:Ext w wx)=>B1.out wx (hx0.trans h)
 have b2:=fun wx (h:Ext w wx)=>B2.out wx (hx0.trans h)
 refine rgE 7 26 ?_
 simp only [tSC,tZe,dSC,dZe,mCo,mNi]
 repeat (first
     |(apply walk_is rfl rfl rfl;(intro wx hwx;(with_reducible apply gq_slL (l:=16) (r:=1088) Tryz.underlying22);infer_instance;exact rfl;exact rfl;exact(by omega);exact rfl);(simp only [Act.put,sIB,sCS,sCZ];rfl))
     |(apply walk_is rfl rfl rfl;(intro wx hwx;(with_reducible apply gq_build BG.out);(first|rfl|simp [Act.eval]|kernel_rfl));(simp only [Act.put,sIB,sCS,sCZ];rfl))
     | (apply walk_is rfl rfl rfl
        · (intro wx hwx;go_simp;(try go_bits);first|exact gives_same|exact gives_skip|with_reducible exact gives_call (b1 wx hwx)|with_reducible exact gives_call (b2 wx hwx))
        · (simp only [Act.put,sIB,sCS,sCZ];rfl))
     | (apply walk_not rfl rfl rfl
        · (simp only [Act.put,sIB,sCS,sCZ];rfl)))
 intro wz hwz
 simp only [zCC,zNR]
 repeat (first|rw [fin_is]|(rw [fin_cons];intro _ _))
 rw [fin_nil]
 try (replace hm:=hm.ext hwz)
 simp only [Act.put,sIB,sCS,sCZ]
 clear b1 b2 hx0
 go_wp2_with (first|((first|((with_reducible show qBx);first|(refine zH hm ?_)));clear hm;(first|(have hx_:=g1;clear hx_;intro gx_)|intro g1);intro w hm))
 go_ret2
 exact⟨g1,rfl,hm.base .hd,_,hm,fun wx hrow _=>⟨gw,hrow ⟨g1,169,akC X Y gw⟩ (by simp),hrow ⟨gw,70,Z.map v32⟩ (by simp),l1,l2,L3.out⟩⟩
def hdB(n:Nat):List Byte:=putL (BitVec.ofNat 64 (n*8)) 8++putL (BitVec.ofNat 64 (n/2305843009213693952)) 8
theorem hdB_length(n:Nat):(hdB n).length=16:=by rw [hdB,List.length_append,putL_length,putL_length]
def hd1(y:List (BitVec 32))(n:Nat):List (BitVec 32):=pvF y (hdB n) (zer 5) 1
def hdV(tw t:List Byte)(n:Nat):List (BitVec 32):=pvE (ofL (clB tw 3) 0#32) (pvF (ofL (clB tw 3) 0#32) t (hd1 (ofL (clB tw 3) 0#32) n) (t.length/16)) (pwR (pwR (zer 16) (hdB n)) t) (t.length%16)
theorem ahead12_any(g:Nat)(tw ms t:List Byte)(W:List (BitVec 32))(n:Nat)(hn:n≤1000000)(ht:t.length≤70368744177000)(p:Option Addr)(c:Nat)(hc:t.length≤c)(w0:World)(h:AdR w0 g tw ms W)(hr:RdB w0 p t):
   Gives Tryz.prog 184 #[.pointer (some ⟨g,0,none⟩), .slice p t.length c, .int .i64 (n:Int)] w0 (WV (num (lowB (hdV tw t n)) 0 8) (num (lowB (hdV tw t n)) 8 8)):=by
 unfold Gives
 have hm:=Own.start w0
 obtain⟨gw,h1,_,htw,_,_⟩:=h
 have HR:=hid fun w (hx:Ext w0 w)=>row_ext h1 hx
 have ET:=hid (akC_tw tw ms gw htw)
 have HTW:=hid htw
 obtain⟨y,hy⟩:∃y,y=ofL (clB tw 3) 0#32:=⟨_,rfl⟩
 have ly:y.length=5:=by rw [hy];exact ofL_length _ _
 have PN:=hid fun w=>(show Calls Tryz.prog 190 #[A8 tw] w fun e w'=>∃g,e= .returned (.pointer (some ⟨g,0,none⟩))∧w.heap.size≤g∧Row w' g 279 (psC y (zer 5) (zer 16) 0)∧Ext w w' from by rw [hy];exact pnew_any tw htw w)
 have lH:=hdB_length n
 have lR1:=pwR_length (zer 16) (hdB n) zer_length
 have EV:Hid (hdV tw t n=pvE y (pvF y t (hd1 y n) (t.length/16)) (pwR (pwR (zer 16) (hdB n)) t) (t.length%16)):=hid (by rw [hy];rfl)
 have W1:=hid fun (gs:Nat)(p:Option Addr)(c:Nat)(hc:16≤c)(w:World)(R:List Blk)(hrd:∀wx X,Own w0 wx (X::R)→RdB wx p (hdB n))(hm:Own w0 w (⟨gs,279,psC y (zer 5) (zer 16) 0⟩::R))=>(show Calls Tryz.prog 191 #[.pointer (some ⟨gs,0,none⟩), .slice p 16 c] w fun e w'=>e= .returned (.tuple #[])∧Own w0 w' (⟨gs,279,psC y (hd1 y n) (pwR (zer 16) (hdB n)) 0⟩::R)from by
   have:=pwrite_any gs y (zer 5) (zer 16) (hdB n) ly zer_length zer_length (by omega) p c (by omega) w0 w R hrd hm
   rw [lH]at this
   exact this)
 have lV1:(hd1 y n).length=5:=pvF_length _ _ _ _ zer_length
 have W2:=hid fun (gs:Nat)(w:World)(R:List Blk)(hm:Own w0 w (⟨gs,279,psC y (hd1 y n) (pwR (zer 16) (hdB n)) 0⟩::R))=>pwrite_any gs y (hd1 y n) (pwR (zer 16) (hdB n)) t ly lV1 lR1 ht p c hc w0 w R (fun wx X hX=>hr.ext hX.x) hm
 have lR2:=pwR_length (pwR (zer 16) (hdB n)) t lR1
 have lV2:(pvF y t (hd1 y n) (t.length/16)).length=5:=pvF_length _ _ _ _ lV1
 have NU:=hid fun (gs:Nat)(w:World)(h:Row w gs 279 (psC y (pvF y t (hd1 y n) (t.length/16)) (pwR (pwR (zer 16) (hdB n)) t) (t.length%16)))=>anumberE_any gs (t.length%16) y (pvF y t (hd1 y n) (t.length/16)) (pwR (pwR (zer 16) (hdB n)) t) (Nat.mod_lt _ (by omega)) ly lV2 lR2 w h
 rw [←EV.out]at NU
 have BH:=hid fun (w:World)=>(show Gives Tryz.prog 186 #[.agg #[.int .u64 ((n:Int)*8), .int .u64 ((n:Int)/2305843009213693952)]] w (A8 (hdB n))from by
   have:=bytes_any (BitVec.ofNat 64 (n*8)) (BitVec.ofNat 64 (n/2305843009213693952)) w
   rw [WV,v64_nat _ (by omega),v64_nat _ (by omega),show((n*8:Nat):Int)=(n:Int)*8 from by omega,show((n/2305843009213693952:Nat):Int)=(n:Int)/2305843009213693952 from by omega]at this
   exact this)
 have i0:(0:Int)≤(n:Int):=by omega
 have i1:(n:Int)≤1000000:=by omega
 have BW:=hid build_wide2
 clear h1 hr hy
 go_enter Tryz.func184,Tryz.ntmps184
 have LH:=hid lH
 have l1:=Nat.le_of_eq lH
 have l2:=Nat.le_of_eq lH.symm
 obtain⟨HB,hHB⟩:=exq (hdB n)
 rw [←hHB]at BH W1 W2 NU LH l1 l2
 clear EV lH lR1 lV1 lR2 lV2 hHB
 go_wp2_with (first|((with_reducible apply wq_build2 (BW.out _ _));exact rfl;exact rfl;exact rfl)|(go_at_call 186;(with_reducible refine(BH.out _).mono ?_);rintro e_ w ⟨rfl,hx_⟩;replace hm:=hm.ext hx_;clear hx_)|((with_reducible apply wq_rowN (HR.out _ hm.x));exact rfl;infer_instance;exact rfl;exact ET.out;exact(by rw [List.length_map];exact HTW.out))|((((with_reducible show qSt);first|(refine zE hm ?_)));clear hm;intro w hm)|((first|((with_reducible show qAl);first|(refine zG hm ?_)));clear hm;(first|(have hx_:=g1;clear hx_;(first|(have hx_:=g2;clear hx_;intro gx_)|intro g2))|intro g1);intro w hm))
 refine(PN.out _).mono ?_
 rintro e_ w ⟨gs,rfl,hg,hrow,hx⟩
 replace hm:=hm.push hx hg hrow
 clear hg hrow hx
 go_wp2_with fail
 refine(W1.out gs _ 16 (by omega) w _ (fun wx X hX=>hX.rdB (g:=g2) (l:=HB) (.tl .hd)) hm).mono ?_
 rintro e_ w ⟨rfl,hm1⟩
 replace hm:=hm1
 clear hm1
 go_wp2_with fail
 refine(W2.out gs _ _ hm).mono ?_
 rintro e_ w ⟨rfl,hm1⟩
 replace hm:=hm1
 clear hm1
 go_wp2_with (first|(go_at_call 192;(with_reducible refine(NU.out gs _ (hm.row .hd)).mono ?_);rintro e_ w ⟨rfl,hx_⟩;replace hm:=hm.ext hx_;clear hx_)|((((with_reducible show qSt);first|(refine zE hm ?_)));clear hm;intro w hm))
 refine rtO hm rfl rfl ⟨rfl,hm.x⟩
open Go
def strF(z:Nat)(S:Nat→List Byte)(b:List Byte):Nat→List Byte
 |0=>[]
 |k+1=>strF z S b k++xorL (b.drop (z*k)) (S k)
theorem strF_length(z:Nat)(S:Nat→List Byte)(hS:∀k,(S k).length=z)(b:List Byte)(k:Nat):(strF z S b k).length=min b.length (z*k):=by
 induction k with
 |zero=>simp [strF]
 | succ k ih=>
   rw [strF,List.length_append,ih,xorL_length,hS,List.length_drop,Nat.mul_succ]
   omega
def strN(z n:Nat):Nat:=(n+(z-1))/z
theorem strN_le(z n:Nat)(hz:0<z):n≤z*strN z n:=by
 unfold strN
 have h:=Nat.div_add_mod (n+(z-1)) z
 have:=Nat.mod_lt (n+(z-1)) hz
 omega
theorem strN_lt(z n k:Nat)(hz:0<z)(h:k<strN z n):z*k<n:=by
 unfold strN at h
 have h1:k+1≤(n+(z-1))/z:=h
 rw [Nat.le_div_iff_mul_le hz,Nat.add_mul,Nat.mul_comm k z]at h1
 omega
def strL(z:Nat)(S:Nat→List Byte)(b:List Byte):List Byte:=strF z S b (strN z b.length)
theorem strL_length(z:Nat)(hz:0<z)(S:Nat→List Byte)(hS:∀k,(S k).length=z)(b:List Byte):(strL z S b).length=b.length:=by
 rw [strL,strF_length z S hS]
 have:=strN_le z b.length hz
 omega
theorem body1_any(g gs kv sv n:Nat)(tw ms:List Byte)(W:List (BitVec 32))(y v:List (BitVec 32))(r b:List Byte)(hy:y.length=5)(hv:v.length=5)(hr:r.length=16)(hb:b.length=16*n)(hn:n≤64)(p:Option Addr)(c:Nat)(w0 w:World)(R:List Blk)(h:AdR w0 g tw ms W)(hrd:∀wx X,Own w0 wx (X::R)→RdB wx p b)(hk:Has R ⟨kv,123,[.pointer (some ⟨g,0,none⟩)]⟩)(hs:Has R ⟨sv,270,[.pointer (some ⟨gs,0,none⟩)]⟩)(hm:Own w0 w (⟨gs,279,psC y v r 0⟩::R)):
   Calls Tryz.prog 194 #[.slice p b.length c, .pointer (some ⟨kv,0,none⟩), .pointer (some ⟨sv,0,none⟩)] w fun e w'=>e= .returned (.tuple #[])∧Own w0 w' (⟨gs,279,psC y (pvF y (nhL W b) v 2) (pwR r (nhL W b)) 0⟩::R):=by
 obtain⟨gw,h1,h2,l1,l2,l3⟩:=h
 have HR:=hid fun w (hx:Ext w0 w)=>row_ext h1 hx
 have EW:=hid (akC_w tw ms gw l1 l2)
 have NH:=hid fun (w:World)(hx:Ext w0 w)(hr:RdB w p b)=>nhash_any gw n W b l3 hb hn p c w hr (row_ext h2 hx)
 have RB:=hid hrd
 have HK:=hid hk
 have HS:=hid hs
 have lH:=nhL_length W b
 obtain⟨H,hH⟩:=exq (nhL W b)
 rw [←hH]at NH lH⊢
 have LH:=hid lH
 have WR:=hid fun (q:Option Addr)(d:Nat)(hd:32≤d)(w:World)(X:Blk)(hrd:∀wx Y,Own w0 wx (Y::X::R)→RdB wx q H)(hm:Own w0 w (⟨gs,279,psC y v r 0⟩::X::R))=>(show Calls Tryz.prog 191 #[.pointer (some ⟨gs,0,none⟩), .slice q 32 d] w fun e w'=>e= .returned (.tuple #[])∧Own w0 w' (⟨gs,279,psC y (pvF y H v 2) (pwR r H) 0⟩::X::R)from by
   have:=pwrite_any gs y v r H hy hv hr (by omega) q d (by omega) w0 w (X::R) hrd hm
   rw [lH]at this
   exact this)
 have h3:=Nat.le_of_eq lH
 have h4:=Nat.le_of_eq lH.symm
 obtain⟨BL,hBL⟩:=exq (b.length)
 rw [←hBL]at NH⊢
 clear h1 h2 l1 l2 l3 hk hs hrd hH hb hBL lH
 go_enter Tryz.func194,Tryz.ntmps194
 go_wp2_with (first|((with_reducible apply wq_ld1 hm);exact rfl;infer_instance;exact rfl;exact(.tl HK.out);exact rfl)|((with_reducible apply wq_row1 (HR.out _ hm.x));exact rfl;infer_instance;exact rfl;exact EW.out)|(go_at_call 195;(with_reducible refine(NH.out _ hm.x (RB.out _ _ hm)).mono ?_);rintro e_ w ⟨rfl,hx_⟩;replace hm:=hm.ext hx_;clear hx_)|((((with_reducible show qSt);first|(refine zE hm ?_)));clear hm;intro w hm)|((first|((with_reducible show qAl);first|(refine zG hm ?_)));clear hm;(first|(have hx_:=g1;clear hx_;intro gx_)|intro g1);intro w hm))
 have hm2:=hm
 have G1:=hid fun wx (hx:Ext w wx)=>hm2.ext hx
 clear hm2
 refine rgE 2 18 ?_
 simp only [tSC,tZe,dSC,dZe,mCo,mNi]
 repeat (first
     |(apply walk_is rfl rfl rfl;(intro wx hwx;(with_reducible apply gq_ld1 (G1.out wx hwx));infer_instance;exact rfl;exact(.tl (.tl HS.out));exact rfl);(simp only [Act.put,sIB,sCS,sCZ];rfl))
     | (apply walk_is rfl rfl rfl
        · (intro wx hwx;go_simp;(try go_bits);first|exact gives_same|exact gives_skip)
        · (simp only [Act.put,sIB,sCS,sCZ];rfl))
     | (apply walk_not rfl rfl rfl
        · (simp only [Act.put,sIB,sCS,sCZ];rfl)))
 intro wz hwz
 simp only [zCC,zNR]
 repeat (first|rw [fin_is]|(rw [fin_cons];intro _ _))
 rw [fin_nil]
 try (replace hm:=hm.ext hwz)
 simp only [Act.put,sIB,sCS,sCZ]
 go_wp2_with fail
 refine(WR.out _ _ (by omega) _ _ (fun wx Y hX=>hX.rdB (g:=g1) (l:=H) (.tl .hd)) hm.pull1).mono ?_
 rintro e_ w ⟨rfl,hm1⟩
 replace hm:=hm1
 clear hm1
 go_wp2_with fail
 go_end0
 exact⟨rfl,hm.pull1.drop⟩
def bdF(W:List (BitVec 32))(y:List (BitVec 32))(B:List Byte):Nat→List (BitVec 32)×List Byte
 |0=>(zer 5,zer 16)
 |k+1=>(pvF y (nhL W ((B.drop (1024*k)).take 1024)) (bdF W y B k).1 2,pwR (bdF W y B k).2 (nhL W ((B.drop (1024*k)).take 1024)))
theorem bdF_len(W:List (BitVec 32))(y:List (BitVec 32))(B:List Byte)(k:Nat):(bdF W y B k).1.length=5∧(bdF W y B k).2.length=16:=by
 induction k with
 |zero=>exact⟨zer_length,zer_length⟩
 |succ k ih=>exact⟨pvF_length _ _ _ _ ih.1,pwR_length _ _ ih.2⟩
abbrev doV(kv sv:Nat):Value:= .func (.func 194) #[] #[.pointer (some ⟨kv,0,none⟩), .pointer (some ⟨sv,0,none⟩)]
theorem pieces_any(g gs kv sv m:Nat)(tw ms:List Byte)(W:List (BitVec 32))(y:List (BitVec 32))(B:List Byte)(hy:y.length=5)(hb:B.length=16*m)(hB:B.length≤70368744177000)(p:Option Addr)(c:Nat)(hc:B.length≤c)(w0 w:World)(R:List Blk)(h:AdR w0 g tw ms W)(hrd:∀wx X,Own w0 wx (X::R)→RdB wx p B)(hk:Has R ⟨kv,123,[.pointer (some ⟨g,0,none⟩)]⟩)(hs:Has R ⟨sv,270,[.pointer (some ⟨gs,0,none⟩)]⟩)(hm:Own w0 w (⟨gs,279,psC y (zer 5) (zer 16) 0⟩::R)):
   Calls Tryz.prog 193 #[.slice p B.length c,doV kv sv] w fun e w'=>e= .returned (.tuple #[])∧Own w0 w' (⟨gs,279,psC y (bdF W y B (strN 1024 B.length)).1 (bdF W y B (strN 1024 B.length)).2 0⟩::R):=by
 have BD:=hid fun (k:Nat)(w:World)(q:Option Addr)(d n:Nat)(hn:n≤64)(hl:((B.drop (1024*k)).take 1024).length=16*n)(hrd:∀wx X,Own w0 wx (X::R)→RdB wx q ((B.drop (1024*k)).take 1024))(hm:Own w0 w (⟨gs,279,psC y (bdF W y B k).1 (bdF W y B k).2 0⟩::R))=>(show Calls Tryz.prog 194 #[.slice q ((B.drop (1024*k)).take 1024).length d, .pointer (some ⟨kv,0,none⟩), .pointer (some ⟨sv,0,none⟩)] w fun e w'=>e= .returned (.tuple #[])∧Own w0 w' (⟨gs,279,psC y (bdF W y B (k+1)).1 (bdF W y B (k+1)).2 0⟩::R)from
   body1_any g gs kv sv n tw ms W y (bdF W y B k).1 (bdF W y B k).2 ((B.drop (1024*k)).take 1024) hy (bdF_len W y B k).1 (bdF_len W y B k).2 hl hn q d w0 w R h hrd hk hs hm)
 have D0:Hid (bdF W y B 0=(zer 5,zer 16)):=hid rfl
 obtain⟨D,hD⟩:∃D,D=bdF W y B:=⟨_,rfl⟩
 rw [←hD]at BD D0⊢
 have RD:=hid hrd
 have HB:=hid hb
 have HC:=hid hc
 have NL:=hid (strN_le 1024 B.length (by omega))
 have NT:=hid fun k (h:k<strN 1024 B.length)=>strN_lt 1024 B.length k (by omega) h
 have HBB:=hid hB
 clear hrd hk hs hb hc hD h hB
 go_enter Tryz.func193,Tryz.ntmps193
 go_wp2_with fail
 refine wp_scope_goto 0 (fun a_ w_=>∃(k L e:Nat)(q:Option Addr)(u2 u3 u4 u5 u6 u7 u8 u9 u10 u11 u12 u13 u14 u15 u16 u17 u18:Value),a_={tmps:= #[(.slice q L e),(doV kv sv),u2,u3,u4,u5,u6,u7,u8,u9,u10,u11,u12,u13,u14,u15,u16,u17,u18],defers:=[]}∧L=B.length-1024*k∧k≤strN 1024 B.length∧L≤e∧(∀wx X,Own w0 wx (X::R)→RdB wx q (B.drop (1024*k)))∧Own w0 w_ (⟨gs,279,psC y (D k).1 (D k).2 0⟩::R)) (fun a_ _=>slen (a_.tmps.getD 0 undef)) rfl ?_ ?_
 · clear hm
   rintro a' w ⟨k,L,e,q,u2,u3,u4,u5,u6,u7,u8,u9,u10,u11,u12,u13,u14,u15,u16,u17,u18,rfl,⟨hL,hk,hLe,hrd,hm⟩⟩
   by_cases h0:L=0
   · have hkn:k=strN 1024 B.length:=by
       apply Classical.byContradiction;intro h
       have:=NT.out k (by omega)
       omega
     subst hkn
     subst h0
     clear hL hLe hrd
     go_wp2_with fail
     simp only [Exit.jump]
     refine bodyPost_ret (results_none rfl _ _ _) rfl ?_
     exact⟨rfl,hm⟩
   · have hlt:k<strN 1024 B.length:=by
       apply Classical.byContradiction;intro h
       have hkn:k=strN 1024 B.length:=by omega
       have:=NL.out
       rw [hkn]at hL
       omega
     obtain⟨M,hM⟩:=exq (min L 1024)
     have M1:M≤L:=by omega
     have e0:((L:Int)==0)=false:=by rw [beq_eq_false_iff_ne];omega
     have e1:¬(L:Int)=0:=by omega
     have lM:((B.drop (1024*k)).take 1024).length=M:=by rw [List.length_take,List.length_drop,hM,←hL,Nat.min_comm]
     have lP:((B.drop (1024*k)).take 1024).length=16*(M/16):=by
       rw [lM];have:=HB.out;omega
     have BK:=hid fun w (hm:Own w0 w (⟨gs,279,psC y (D k).1 (D k).2 0⟩::R))=>BD.out k w q e (M/16) (by omega) lP (fun wx X h=>(hrd wx X h).take 1024) hm
     rw [lM]at BK
     have RD3:Hid (∀wx X,Own w0 wx (X::R)→RdB wx (slP q e M) (B.drop (1024*(k+1)))):=hid (fun wx X h=>by
       have h1:=(hrd wx X h).slL e M (by rw [List.length_drop,←hL];exact hLe)
       rw [List.drop_drop]at h1
       by_cases hz:L≤1024
       · rw [List.drop_of_length_le (by omega)]at h1⊢
         exact h1
       · rwa [show 1024*k+M=1024*(k+1)from by omega]at h1)
     have Me:M≤e:=by omega
     have HM:=hid hM
     have HL:=hid hL
     have HLT:=hid hlt
     have HLE:=hid hLe
     have L47:L≤70368744177000:=by have:=HBB.out;omega
     clear lM lP hM hL hLe hrd hlt h0
     by_cases hle:L≤1024
     · obtain rfl:M=L:=by have:=HM.out;omega
       have hi:(M:Int)≤1024:=by omega
       go_wp2_with (first|((with_reducible apply wq_slH Tryz.underlying22);infer_instance;exact rfl;exact rfl;exact rfl;exact Me))
       refine(BK.out _ hm).mono ?_
       rintro e_ w ⟨rfl,hm1⟩
       replace hm:=hm1
       clear hm1
       go_wp2_with (first|((with_reducible apply wq_slL (l:=M) Tryz.underlying22);infer_instance;exact rfl;exact rfl;exact rfl;exact M1;exact rfl))
       go_step3
       refine⟨rfl,⟨_,_,_,_,_,_,_,_,_,_,_,_,_,_,_,_,_,_,_,_,_,rfl,⟨(show 0=B.length-1024*(k+1)from by have:=HL.out;have:=HM.out;omega),HLT.out,(by have:=HLE.out;omega),RD3.out,hm⟩⟩, ?_⟩
       show 0<M
       omega
     · obtain rfl:M=1024:=by have:=HM.out;omega
       have hi:¬(L:Int)≤1024:=by omega
       have hi2:(1024:Int)≤(L:Int):=by omega
       go_wp2_with (first|((with_reducible apply wq_slH Tryz.underlying22);infer_instance;exact rfl;exact rfl;exact rfl;exact Me))
       refine(BK.out _ hm).mono ?_
       rintro e_ w ⟨rfl,hm1⟩
       replace hm:=hm1
       clear hm1
       go_wp2_with (first|((with_reducible apply wq_slL (l:=1024) Tryz.underlying22);infer_instance;exact rfl;exact rfl;exact rfl;exact M1;exact rfl))
       go_step3
       refine⟨rfl,⟨_,_,_,_,_,_,_,_,_,_,_,_,_,_,_,_,_,_,_,_,_,rfl,⟨(show L-1024=B.length-1024*(k+1)from by have:=HL.out;have:=HM.out;omega),HLT.out,(by have:=HLE.out;omega),RD3.out,hm⟩⟩, ?_⟩
       show L-1024<L
       omega
 · intro hp
   go_wp2_with fail
   go_step3
   rename_i hK
   exact hK _ _ (hp _ _ ⟨_,_,_,_,_,_,_,_,_,_,_,_,_,_,_,_,_,_,_,_,_,rfl,⟨rfl,Nat.zero_le _,HC.out,fun wx X h=>RD.out wx X h,by rw [D0.out];exact hm⟩⟩)
theorem padded_new(l:List Byte)(p:Option Addr)(c:Nat)(s:Int)(w:World)(h:RdB w p l)(hl:l.length≤140737488355328)(h0: -9223372036854775808≤s)(h1:s≤2147483648):
   Calls Tryz.prog 109 #[.slice p l.length c, .int .i64 s] w fun e w'=>∃g,e= .returned (.slice (some ⟨g,0,none⟩) (pad l s).length (pad l s).length)∧w.heap.size≤g∧Row w' g 5 ((pad l s).map v8)∧Ext w w':=by
 have hr:=roomN_lt l.length s
 have hx:Ext w (w.alloc (.cells ((zeros (l.length+roomN l.length s)).map v8).toArray 5)):=(Ext.refl w).alloc _
 have hrow:=row_new w 5 ((zeros (l.length+roomN l.length s)).map v8)
 have hbb:=h.ext hx
 go_enter Tryz.func109,Tryz.ntmps109
 go_wp2_with (first|(go_at_call 131;refine(room_any l.length s _ (by omega) h0 (by omega)).mono ?_;rintro e w' ⟨rfl,rfl⟩)|(with_reducible show wpList _ _ _ _ _ _;refine make_b (l.length+roomN l.length s) rfl rfl rfl rfl (by omega) (by omega) (by omega) ?_)|(with_reducible show wpList _ _ _ _ _ _;refine wpl_copy (over_pad' l s) rfl rfl rfl rfl rfl rfl (by kernel_rfl) hrow (by simp [zeros_length]) hbb ?_))
 go_ret
 refine⟨w.heap.size, ?_,Nat.le_refl _,row_setRow hrow _,ext_setRow hx _ _ (Nat.le_refl _)⟩
 simp [pad]
end Go.Proofs.YtneacgpmjlocjaaGreatDoor
