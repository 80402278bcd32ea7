/-
  Texts of the program, walked, and plain ones. Conditions: those written in each theorem.
-/
import Derived.Test.YtneacgpmjlocjaaGreatDoorZTopText0
import Derived.Test.YtneacgpmjlocjaaGreatDoorZTopText6
import Derived.Test.YtneacgpmjlocjaaGreatDoorZTopText12
import Derived.Test.YtneacgpmjlocjaaGreatDoorZTopText20
set_option linter.unusedSimpArgs false
set_option linter.unusedVariables false
set_option maxHeartbeats 16000000
open Go.Lib (hid)
namespace Go.Proofs.YtneacgpmjlocjaaGreatDoor
open Go Go.RowKit
set_option maxRecDepth 100000
theorem unboxed_any(g gb:Nat)(b:List Byte)(hb:b.length=16)(w0:World)(h1:Row w0 g 88 (tcells gb mixT unmixT))(h2:Row w0 gb 113 (tabs.map v8)):Gives Tryz.prog 196 #[.pointer (some ⟨g,0,none⟩),A8 b] w0 (A8 (unbL b)):=by
 unfold Gives
 have hm:=Own.start w0
 have hb1:=Nat.le_of_eq hb
 have hb2:=Nat.le_of_eq hb.symm
 have H1:=hid h1
 have H2:=hid h2
 clear hb h1 h2
 go_enter Tryz.func196,Tryz.ntmps196
 go_wp2_with (first|((first|((with_reducible show qAl);first|(refine zG hm ?_))|((with_reducible show qBx);first|(refine zH hm ?_)));clear hm;(first|(have hx_:=g1;clear hx_;(first|(have hx_:=g2;clear hx_;(first|(have hx_:=g3;clear hx_;intro gx_)|intro g3))|intro g2))|intro g1);intro w hm))
 go_loopw [8] (fun i wr=>∃col:Nat,col≤4∧i= .int .i64 col∧Own w0 wr [⟨g3,132,(unbF b (4*col)).map v8⟩,⟨g2,132,(zer 16).map v8⟩,⟨g1,132,b.map v8⟩]) (fun i _=>4-(intOf i).toNat)
 case atStart=>exact⟨0,by omega,rfl,hm⟩
 case round =>
   obtain⟨col,hcol,rfl,hm⟩:=hrel
   by_cases hlt:col<4
   · have hd : decide ((col:Int)<4)=true:=by simp;omega
     go_wp2_with fail
     go_loopw [11] (fun j wr=>∃row:Nat,row≤4∧j= .int .i64 row∧Own w0 wr [⟨g3,132,(unbF b (4*col+row)).map v8⟩,⟨g2,132,(zer 16).map v8⟩,⟨g1,132,b.map v8⟩]) (fun j _=>4-(intOf j).toNat)
     case atStart=>exact⟨0,by omega,rfl,hm⟩
     case round =>
       obtain⟨row,hrow,rfl,hm⟩:=hrel
       by_cases hlr:row<4
       · have hs:=shp_lt row col hlr
         have hs2:(shp row col:Int)<16:=by omega
         have hi2:(row:Int)+4*(col:Int)<16:=by omega
         have hi0:(0:Int)≤(row:Int)+4*(col:Int):=by omega
         have hin:((row:Int)+4*(col:Int)).toNat=row+4*col:=by omega
         have ul:=unbF_length b (4*col+row)
         have e1:unbF b (4*col+row+1)=setN (unbF b (4*col+row)) (shp row col) (bxBack (nth b (row+4*col))):=by rw [unbF,show(4*col+row)%4=row from by omega,show(4*col+row)/4=col from by omega,Nat.add_comm (4*col) row]
         have E1:=hid e1
         have HR:=hid (row_ext H1.out hm.x)
         have HB:=hid (row_ext H2.out hm.x)
         clear e1
         go_wp2_with fail
         refine rgE 15 32 ?_
         simp only [tSC,tZe,dSC,dZe,mCo,mNi]
         repeat (first
             | (apply walk_is rfl rfl rfl
                · (intro wx hwx;(with_reducible apply gq_row1 ((fun wx hwx=>row_ext HR.out hwx) wx hwx));infer_instance;exact rfl;(exact tcells_ptr _ _ _))
                · (simp only [Act.put,sIB,sCS,sCZ];rfl))
             | (apply walk_is rfl rfl rfl
                · (intro wx hwx;first|((with_reducible show qGl);first|(exact zJ (hm.ext hwx)))|(go_simp;(try go_bits);first|exact gives_same|exact gives_skip|with_reducible exact gives_call (shifted_G row col hlr hlt wx)|with_reducible exact gives_call (back_G gb _ wx (row_ext HB.out hwx))))
                · (simp only [Act.put,sIB,sCS,sCZ];rfl))
             | (apply walk_not rfl rfl rfl
                · (simp only [Act.put,sIB,sCS,sCZ];rfl)))
         intro wz hwz
         simp only [zCC,zNR]
         repeat (first|rw [fin_is]|(rw [fin_cons];intro _ _))
         rw [fin_nil]
         try (replace hm:=hm.ext hwz)
         simp only [Act.put,sIB,sCS,sCZ]
         go_wp2_with (first|((((with_reducible show qSt);first|(refine zD hm ?_)));clear hm;intro w hm))
         go_roundw
         case rel=>exact⟨row+1,by omega,by go_num,by rw [show 4*col+(row+1)=4*col+row+1 from rfl,E1.out];exact hm⟩
         case measure=>simp [intOf]<;>omega
       · obtain rfl:row=4:=by omega
         go_wp2_with fail
         go_roundw
         case rel=>exact⟨col+1,by omega,by go_num,by rw [show 4*(col+1)=4*col+4 from by omega];exact hm⟩
         case measure=>simp [intOf]<;>omega
   · obtain rfl:col=4:=by omega
     have ul:=unbF_length b (4*4)
     go_wp2_with (first|((with_reducible show qLd);first|(refine zB hm ?_))|((((with_reducible show qSt);first|(refine zE hm ?_)));clear hm;intro w hm))
     refine ret_own hm rfl rfl (by infer_instance) (by repeat (first|exact Has.hd|assumption|apply Has.tl)) (by first|rfl|omega|(simp only [zeros_length,zer_length,tab_length,part_length,setN_length,List.length_map,List.length_cons,List.length_nil,List.length_append,List.length_take,List.length_drop,List.length_replicate,blk_length,putL_length]<;>omega)) rfl ⟨rfl,hm.x⟩
theorem unlast_any(g gb:Nat)(b key:List Byte)(hb:b.length=16)(hk:key.length=16)(w0:World)(h1:Row w0 g 88 (tcells gb mixT unmixT))(h2:Row w0 gb 113 (tabs.map v8)):Gives Tryz.prog 187 #[.pointer (some ⟨g,0,none⟩),A8 b,A8 key] w0 (A8 (unbL (bothL b key))):=by
 unfold Gives
 have hm:=Own.start w0
 have hb1:=Nat.le_of_eq hb
 have hb2:=Nat.le_of_eq hb.symm
 have hk1:=Nat.le_of_eq hk
 have hk2:=Nat.le_of_eq hk.symm
 have HB:=hid hb
 have HK:=hid hk
 have H1:=hid h1
 have H2:=hid h2
 have ul:=unbL_length (bothL b key)
 clear hb hk h1 h2
 go_enter Tryz.func187,Tryz.ntmps187
 go_wp2_with (first|(go_at_call 108;(with_reducible refine(both_any b key HB.out HK.out _).mono ?_);rintro e_ w ⟨rfl,hx_⟩;replace hm:=hm.ext hx_;clear hx_)|(go_at_call 196;(with_reducible refine(unboxed_any g gb (bothL b key) (bothL_length _ _) _ (row_ext H1.out hm.x) (row_ext H2.out hm.x)).mono ?_);rintro e_ w ⟨rfl,hx_⟩;replace hm:=hm.ext hx_;clear hx_)|((with_reducible show qLd);first|(refine zB hm ?_))|((((with_reducible show qSt);first|(refine zE hm ?_)));clear hm;intro w hm)|((first|((with_reducible show qAl);first|(refine zG hm ?_))|((with_reducible show qBx);first|(refine zH hm ?_)));clear hm;intro gx_;intro w hm))
 refine ret_own hm rfl rfl (by infer_instance) (by repeat (first|exact Has.hd|assumption|apply Has.tl)) (by first|rfl|omega|(simp only [zeros_length,zer_length,tab_length,part_length,setN_length,List.length_map,List.length_cons,List.length_nil,List.length_append,List.length_take,List.length_drop,List.length_replicate,blk_length,putL_length]<;>omega)) rfl ⟨rfl,hm.x⟩
attribute [local simp] putL_length
theorem uncB_col(U:List Byte)(col:Nat)(r:Nat)(h:r<4):byteW (uncW U col 4) r=uncB U (4*col+r):=by
 rw [uncB,show(4*col+r)/4=col from by omega,show(4*col+r)%4=r from by omega]
theorem unround_any(g gb:Nat)(b key:List Byte)(hb:b.length=16)(hk:key.length=16)(w0:World)(h1:Row w0 g 88 (tcells gb mixT unmixT))(h2:Row w0 gb 113 (tabs.map v8)):Gives Tryz.prog 188 #[.pointer (some ⟨g,0,none⟩),A8 b,A8 key] w0 (A8 (unr b key)):=by
 unfold Gives
 have hm:=Own.start w0
 have hb1:=Nat.le_of_eq hb
 have hb2:=Nat.le_of_eq hb.symm
 have hk1:=Nat.le_of_eq hk
 have hk2:=Nat.le_of_eq hk.symm
 have H1:=hid h1
 have H2:=hid h2
 have hU:(bothL b key).length=16:=bothL_length _ _
 have CB:=hid fun wx=>both_any b key hb hk wx
 unfold unr
 generalize bothL b key=U at*
 have HU:=hid hU
 have hu1:=Nat.le_of_eq hU
 have hu2:=Nat.le_of_eq hU.symm
 have ul:(unbL (uncL U)).length=16:=unbL_length _
 have CU:=hid fun g wx h h2=>unboxed_any g gb (uncL U) (uncL_length _) wx h h2
 have eU:uncL U=tab 16 (uncB U):=rfl
 have lX:(uncL U).length=16:=uncL_length U
 generalize uncL U=X at*
 have EU:=hid eU
 clear hb hk h1 h2 hU eU
 go_enter Tryz.func188,Tryz.ntmps188
 go_wp2_with (first|(go_at_call 108;(with_reducible refine(CB.out _).mono ?_);rintro e_ w ⟨rfl,hx_⟩;replace hm:=hm.ext hx_;clear hx_)|((with_reducible show qLd);first|(refine zB hm ?_))|((((with_reducible show qSt);first|(refine zE hm ?_)));clear hm;intro w hm)|((first|((with_reducible show qAl);first|(refine zG hm ?_))|((with_reducible show qBx);first|(refine zH hm ?_)));clear hm;(first|(have hx_:=g1;clear hx_;(first|(have hx_:=g2;clear hx_;(first|(have hx_:=g3;clear hx_;(first|(have hx_:=g4;clear hx_;intro gx_)|intro g4))|intro g3))|intro g2))|intro g1);intro w hm))
 go_loopw [18] (fun i wr=>∃col:Nat,col≤4∧i= .int .i64 col∧Own w0 wr [⟨g4,132,(part 16 (4*col) (uncB U) fun _=>0).map v8⟩,⟨g3,132,(zer 16).map v8⟩,⟨g2,132,key.map v8⟩,⟨g1,132,U.map v8⟩]) (fun i _=>4-(intOf i).toNat)
 case atStart=>exact⟨0,by omega,rfl,by rw [←zer_start];exact hm⟩
 case round =>
   obtain⟨col,hcol,rfl,hm⟩:=hrel
   by_cases hlt:col<4
   · have hd : decide ((col:Int)<4)=true:=by simp;omega
     go_wp2_with fail
     go_loopw [9,21] (fun n j wr=>∃row:Nat,row≤4∧j= .int .i64 row∧n=v32 (uncW U col row)∧Own w0 wr [⟨g4,132,(part 16 (4*col) (uncB U) fun _=>0).map v8⟩,⟨g3,132,(zer 16).map v8⟩,⟨g2,132,key.map v8⟩,⟨g1,132,U.map v8⟩]) (fun _ j _=>4-(intOf j).toNat)
     case atStart=>exact⟨0,by omega,rfl,rfl,hm⟩
     case round =>
       obtain⟨row,hrow,rfl,rfl,hm⟩:=hrel
       by_cases hlr:row<4
       · have hs2:(row:Int)+4*(col:Int)<16:=by omega
         have hs3:0≤(row:Int)+4*(col:Int):=by omega
         have hs4:((row:Int)+4*(col:Int)).toNat=row+4*col:=by omega
         have hx9:((nth U (row+4*col)).toNat:Int)<256:=by have:=(nth U (row+4*col)).isLt;omega
         have e1:uncW U col (row+1)=uncW U col row^^^brg unmixesL row (nth U (row+4*col)) 4:=rfl
         have E1:=hid e1
         have HR:=hid (row_ext H1.out hm.x)
         clear e1
         go_wp2_with fail
         refine rgE 15 51 ?_
         simp only [tSC,tZe,dSC,dZe,mCo,mNi]
         repeat (first
             | (apply walk_is rfl rfl rfl
                · (intro wx hwx;(with_reducible apply gq_row1 ((fun wx hwx=>row_ext HR.out hwx) wx hwx));infer_instance;exact rfl;(exact tcunmix _ _ _ hlr))
                · (simp only [Act.put,sIB,sCS,sCZ];rfl))
             | (apply walk_is rfl rfl rfl
                · (intro wx hwx;first|((with_reducible show qGl);first|(exact zJ (hm.ext hwx)))|(go_simp;(try go_bits);first|exact gives_same|exact gives_skip))
                · (simp only [Act.put,sIB,sCS,sCZ];rfl))
             | (apply walk_not rfl rfl rfl
                · (simp only [Act.put,sIB,sCS,sCZ];rfl)))
         intro wz hwz
         simp only [zCC,zNR]
         repeat (first|rw [fin_is]|(rw [fin_cons];intro _ _))
         rw [fin_nil]
         try (replace hm:=hm.ext hwz)
         simp only [Act.put,sIB,sCS,sCZ]
         go_wp2_with fail
         go_roundw
         case rel=>exact⟨row+1,by omega,by go_num,by rw [E1.out],hm⟩
         case measure=>simp [intOf]<;>omega
       · obtain rfl:row=4:=by omega
         go_wp2_with (first|(go_at_call 83;(with_reducible refine(putword_any _ _).mono ?_);rintro e_ w ⟨rfl,hx_⟩;replace hm:=hm.ext hx_;clear hx_)|((((with_reducible show qSt);first|(refine zE hm ?_)));clear hm;intro w hm)|((first|((with_reducible show qAl);first|(refine zG hm ?_)));clear hm;(first|(have hx_:=g1;clear hx_;(first|(have hx_:=g2;clear hx_;(first|(have hx_:=g3;clear hx_;(first|(have hx_:=g4;clear hx_;intro gx_)|intro g4))|intro g3))|intro g2))|intro g1);intro w hm))
         have hl0:(0:Int)≤4*(col:Int):=by omega
         have hl1:4*(col:Int)≤16:=by omega
         have hl2:(4*(col:Int)).toNat=4*col:=by omega
         have hl3:16≠4*col:=by omega
         have hl4:¬16=4*col:=hl3
         refine rgE 4 51 ?_
         simp only [tSC,tZe,dSC,dZe,mCo,mNi]
         repeat (first
             | (apply walk_is rfl rfl rfl
                · (intro wx hwx;go_simp;(try go_bits);first|exact gives_same|exact gives_skip)
                · (simp only [Act.put,sIB,sCS,sCZ];rfl))
             | (apply walk_not rfl rfl rfl
                · (simp only [Act.put,sIB,sCS,sCZ];rfl)))
         intro wz hwz
         simp only [zCC,zNR]
         repeat (first|rw [fin_is]|(rw [fin_cons];intro _ _))
         rw [fin_nil]
         try (replace hm:=hm.ext hwz)
         simp only [Act.put,sIB,sCS,sCZ]
         refine wpl_cp8 hm rfl rfl rfl rfl rfl (by kernel_rfl) (by repeat (first|exact Swap.hd|assumption|apply Swap.tl)) (hm.rdB (by repeat (first|exact Has.hd|assumption|apply Has.tl))) (putL_length _ _).symm (over_col _ (uncB U) col _ hlt (by omega) (uncB_col U col)) (by simp;omega) ?_
         clear hm
         intro w hm
         go_wp2_with fail
         go_roundw
         case rel=>exact⟨col+1,by omega,by go_num,by rw [show 4*(col+1)=4*col+4 from by omega];exact hm.drop⟩
         case measure=>simp [intOf]<;>omega
   · obtain rfl:col=4:=by omega
     rw [show 4*4=16 from rfl,part_all,←EU.out]at hm
     go_wp2_with (first|(go_at_call 196;(with_reducible refine(CU.out g _ (row_ext H1.out hm.x) (row_ext H2.out hm.x)).mono ?_);rintro e_ w ⟨rfl,hx_⟩;replace hm:=hm.ext hx_;clear hx_)|((with_reducible show qLd);first|(refine zB hm ?_))|((((with_reducible show qSt);first|(refine zE hm ?_)));clear hm;intro w hm))
     refine ret_own hm rfl rfl (by infer_instance) (by repeat (first|exact Has.hd|assumption|apply Has.tl)) (by first|rfl|omega|(simp only [zeros_length,zer_length,tab_length,part_length,setN_length,List.length_map,List.length_cons,List.length_nil,List.length_append,List.length_take,List.length_drop,List.length_replicate,blk_length,putL_length]<;>omega)) rfl ⟨rfl,hm.x⟩
end Go.Proofs.YtneacgpmjlocjaaGreatDoor
namespace Go.Proofs.YtneacgpmjlocjaaGreatDoor
open Go Go.RowKit
set_option maxRecDepth 100000
theorem decrypt_any(g:Nat)(k0 kl:List Byte)(ks:List (List Byte))(b:List Byte)(hb:b.length=16)(w0:World)(h:AesR w0 g k0 ks kl):Gives Tryz.prog 181 #[.pointer (some ⟨g,0,none⟩),A8 b] w0 (A8 (aesD k0 ks kl b)):=by
 unfold Gives
 have hm:=Own.start w0
 obtain⟨gt,gb,a,c,h1,h2,h3,h4,h5,h6,h7⟩:=h
 have R1:=hid fun wx (hx:Ext w0 wx)=>row_ext h1 hx
 obtain⟨l0,ll,d0,dm,dl⟩:=h4.three h6
 have D0:=hid d0
 have DL:=hid dl
 have KA:=hid fun (j:Nat)(hj:0<j)(hjm:j≤ks.length)=>(show RdB w0 (some (a.add (j*16))) (ks.getD (j-1) [])∧(ks.getD (j-1) []).length=16 from by
   have:=h4.at (by omega) j (by simp;omega)
   rwa [show(k0::(ks++[kl])).getD j []=ks.getD (j-1) []from by
     obtain⟨i,rfl⟩:∃i,j=i+1:=⟨j-1,by omega⟩
     simp only [Nat.add_sub_cancel,List.getD_eq_getElem?_getD,List.getElem?_cons_succ]
     rw [List.getElem?_append_left (by omega)]]at this)
 have lu:(unl b kl).length=16:=unl_length _ _
 have B0:=hid fun wx (hx:Ext w0 wx)=>(show Gives Tryz.prog 187 #[.pointer (some ⟨gt,0,none⟩),A8 b,A8 kl] wx (A8 (dcF ks (unl b kl) 0))from unlast_any gt gb b kl hb ll wx (row_ext h2 hx) (row_ext h3 hx))
 have BR:=hid fun (cc:Nat)(hc:cc<ks.length) wx (hx:Ext w0 wx)=>(show Gives Tryz.prog 188 #[.pointer (some ⟨gt,0,none⟩),A8 (dcF ks (unl b kl) cc),A8 (ks.getD (ks.length-cc-1) [])] wx (A8 (dcF ks (unl b kl) (cc+1)))from by
   rw [show ks.length-cc-1=ks.length-1-cc from by omega]
   exact unround_any gt gb _ _ (dcF_length ks _ lu cc) (by have:=(KA.out (ks.length-cc) (by omega) (by omega)).2;rwa [show ks.length-cc-1=ks.length-1-cc from by omega]at this) wx (row_ext h2 hx) (row_ext h3 hx))
 have B2:=hid fun wx=>(show Gives Tryz.prog 90 #[A8 (dcF ks (unl b kl) ks.length),A8 k0] wx (A8 (aesD k0 ks kl b))from aboth_any _ k0 (dcF_length ks _ lu _) l0 wx)
 have LF:=hid (dcF_length ks (unl b kl) lu)
 have lE:=aesD_length k0 ks kl b
 obtain⟨m,hm_⟩:∃m,ks.length=m:=⟨_,rfl⟩
 rw [hm_]at R1 h5 h6 h7 DL B2 BR KA
 generalize aesD k0 ks kl b=E at*
 generalize dcF ks (unl b kl)=F at*
 have P0:Hid ((aesC gt (some a) (m+2) c)[0]? =some (.pointer (some ⟨gt,0,none⟩))):=hid rfl
 have P1:Hid ((aesC gt (some a) (m+2) c)[1]? =some (.slice (some a) (m+2) c)):=hid rfl
 have q1:((m:Int)+2)-1=(m:Int)+1:=by omega
 have q4:0≤(m:Int)+1∧(m:Int)+1<(m:Int)+2:=by omega
 have q8:(m:Int)+1<(m:Int)+2:=by omega
 have q9:0≤(m:Int)+1:=by omega
 have q5:((m:Int)+1).toNat=m+1:=by omega
 have q6:(0:Int)<(m:Int)+2:=by omega
 have hb1:=Nat.le_of_eq hb
 have hb2:=Nat.le_of_eq hb.symm
 have he1:=Nat.le_of_eq lE
 have he2:=Nat.le_of_eq lE.symm
 have hf1:=fun k=>Nat.le_of_eq (LF.out k)
 have hf2:=fun k=>Nat.le_of_eq (LF.out k).symm
 have HF1:=hid hf1
 have HF2:=hid hf2
 have f0:=hf1 0
 have f0':=hf2 0
 clear h1 h2 h3 h4 d0 dm dl hm_ hb lE hf1 hf2 lu
 go_enter Tryz.func181,Tryz.ntmps181
 go_wp2_with (first|((with_reducible apply wq_row1 (R1.out _ hm.x));exact rfl;infer_instance;exact rfl;exact P1.out)|((first|((with_reducible show qAl);first|(refine zG hm ?_))|((with_reducible show qBx);first|(refine zH hm ?_)));clear hm;(first|(have hx_:=g1;clear hx_;(first|(have hx_:=g2;clear hx_;intro gx_)|intro g2))|intro g1);intro w hm))
 have r1:=fun wx (hwx:Ext w wx)=>R1.out wx (hm.x.trans hwx)
 have d0:=fun wx (hwx:Ext w wx)=>DL.out.ext (hm.x.trans hwx)
 have hx0:=hm.x
 refine rgE 13 53 ?_
 simp only [tSC,tZe,dSC,dZe,mCo,mNi]
 repeat (first
     | (apply walk_is rfl rfl rfl
        · (intro wx hwx;(with_reducible apply gq_row1 ((r1) wx hwx));infer_instance;exact rfl;exact P0.out)
        · (simp only [Act.put,sIB,sCS,sCZ];rfl))
     | (apply walk_is rfl rfl rfl
        · (intro wx hwx;(with_reducible apply gq_row1 ((r1) wx hwx));infer_instance;exact rfl;exact P1.out)
        · (simp only [Act.put,sIB,sCS,sCZ];rfl))
     | (apply walk_is rfl rfl rfl
        · (intro wx hwx;(with_reducible apply gq_rdW ((d0) wx hwx));infer_instance;exact rfl;(focus (first|rfl|omega|(simp;done)|(simp;omega))))
        · (simp only [Act.put,sIB,sCS,sCZ];rfl))
     | (apply walk_is rfl rfl rfl
        · (intro wx hwx;first|((with_reducible show qGl);first|(exact zK (hm.ext hwx)))|(go_simp;(try go_bits);first|exact gives_same|exact gives_skip|with_reducible exact gives_call (B0.out wx (hx0.trans hwx))))
        · (simp only [Act.put,sIB,sCS,sCZ];rfl))
     | (apply walk_not rfl rfl rfl
        · (simp only [Act.put,sIB,sCS,sCZ];rfl)))
 intro wz hwz
 simp only [zCC,zNR]
 repeat (first|rw [fin_is]|(rw [fin_cons];intro _ _))
 rw [fin_nil]
 try (replace hm:=hm.ext hwz)
 simp only [Act.put,sIB,sCS,sCZ]
 clear r1 d0 hx0
 go_wp2_with (first|((((with_reducible show qSt);first|(refine zE hm ?_)));clear hm;intro w hm))
 have KB:=hid fun (j:Nat)(hj:j<m) wx (hx:Ext w0 wx)=>((KA.out (j+1) (by omega) (by omega)).1.ext hx:RdB wx (some (a.add ((j+1)*16))) (ks.getD (j+1-1) []))
 have KL:=hid fun (j:Nat)(hj:j<m)=>(KA.out (j+1) (by omega) (by omega)).2
 have BJ:=hid fun (j:Nat)(hj:j<m) wx (hx:Ext w0 wx)=>(show Gives Tryz.prog 188 #[.pointer (some ⟨gt,0,none⟩),A8 (F (m-(j+1))),A8 (ks.getD (j+1-1) [])] wx (A8 (F (m-j)))from by
   have h:=BR.out (m-(j+1)) (by omega) wx hx
   rwa [show m-(m-(j+1))-1=j+1-1 from by omega,show m-(j+1)+1=m-j from by omega]at h)
 clear q1 q4 q8 q9 q5 KA BR
 simp only [Act.put,sIB,sCS,sCZ]
 go_loopw [5] (fun i wr=>∃j:Nat,j≤m∧i= .int .i64 ((j:Int)+1)∧Own w0 wr [⟨g2,132,(zer 16).map v8⟩,⟨g1,132,(F (m-j)).map v8⟩]) (fun i _=>(intOf i).toNat)
 case atStart=>exact⟨m,Nat.le_refl _,rfl,by rw [Nat.sub_self];exact hm⟩
 case round =>
   obtain⟨j,hj,rfl,hm⟩:=hrel
   cases j with
   | zero=>
     have hd1:decide (((0:Nat):Int)+1>1)=false:=by decide
     rw [Nat.sub_zero]at hm
     have f1:=HF1.out m
     have f2:=HF2.out m
     go_wp2_with fail
     have r1:=fun wx (hwx:Ext wr wx)=>R1.out wx (hm.x.trans hwx)
     have d0:=fun wx (hwx:Ext wr wx)=>D0.out.ext (hm.x.trans hwx)
     have hx0:=hm.x
     obtain⟨w,rfl⟩:∃w_,w_=wr:=⟨_,rfl⟩
     refine rgE 8 53 ?_
     simp only [tSC,tZe,dSC,dZe,mCo,mNi]
     repeat (first
         | (apply walk_is rfl rfl rfl
            · (intro wx hwx;(with_reducible apply gq_row1 ((r1) wx hwx));infer_instance;exact rfl;exact P0.out)
            · (simp only [Act.put,sIB,sCS,sCZ];rfl))
         | (apply walk_is rfl rfl rfl
            · (intro wx hwx;(with_reducible apply gq_row1 ((r1) wx hwx));infer_instance;exact rfl;exact P1.out)
            · (simp only [Act.put,sIB,sCS,sCZ];rfl))
         | (apply walk_is rfl rfl rfl
            · (intro wx hwx;(with_reducible apply gq_rdW ((d0) wx hwx));infer_instance;exact rfl;(focus (first|rfl|omega|(simp;done)|(simp;omega))))
            · (simp only [Act.put,sIB,sCS,sCZ];rfl))
         | (apply walk_is rfl rfl rfl
            · (intro wx hwx;first|((with_reducible show qGl);first|(exact zK (hm.ext hwx)))|(go_simp;(try go_bits);first|exact gives_same|exact gives_skip|with_reducible exact gives_call (B2.out wx)))
            · (simp only [Act.put,sIB,sCS,sCZ];rfl))
         | (apply walk_not rfl rfl rfl
            · (simp only [Act.put,sIB,sCS,sCZ];rfl)))
     intro wz hwz
     simp only [zCC,zNR]
     repeat (first|rw [fin_is]|(rw [fin_cons];intro _ _))
     rw [fin_nil]
     try (replace hm:=hm.ext hwz)
     simp only [Act.put,sIB,sCS,sCZ]
     clear r1 d0 hx0
     go_wp2_with (first|((((with_reducible show qSt);first|(refine zE hm ?_)));clear hm;intro w hm))
     refine rtO hm rfl rfl ⟨rfl,hm.x⟩
   | succ j =>
     have hd1:decide ((((j+1:Nat):Int))+1>1)=true:=decide_eq_true (by omega)
     have hd2:decide ((j:Int)+1+1>1)=true:=decide_eq_true (by omega)
     have q1:(j:Int)+1+1-1=(j:Int)+1:=by omega
     have q4:0≤(j:Int)+1∧(j:Int)+1<(m:Int)+2:=by omega
     have q5:((j:Int)+1).toNat=j+1:=by omega
     have q8:(j:Int)+1<(m:Int)+2:=by omega
     have q9:0≤(j:Int)+1:=by omega
     have b0:=fun wx (hx:Ext w0 wx)=>BJ.out j (by omega) wx hx
     have kb:=fun wx (hx:Ext w0 wx)=>KB.out j (by omega) wx hx
     have kl:=KL.out j (by omega)
     have k1:=Nat.le_of_eq kl
     have k2:=Nat.le_of_eq kl.symm
     have f1:=HF1.out (m-(j+1))
     have f2:=HF2.out (m-(j+1))
     have f3:=HF1.out (m-j)
     have f4:=HF2.out (m-j)
     obtain⟨X0,hX0⟩:=exq (F (m-(j+1)))
     obtain⟨X1,hX1⟩:=exq (F (m-j))
     obtain⟨kk,hkk⟩:=exq (ks.getD (j+1-1) [])
     rw [←hX0]at hm b0 f1 f2
     rw [←hX1]at b0 f3 f4
     rw [←hkk]at b0 kb kl k1 k2
     have HB:=hid b0
     have HKB:=hid kb
     have HX1:=hid hX1
     clear b0 kb hX0 hX1 hkk
     obtain⟨w,rfl⟩:∃w_,w_=wr:=⟨_,rfl⟩
     go_wp2_with fail
     have r1:=fun wx (hwx:Ext w wx)=>R1.out wx (hm.x.trans hwx)
     have d0:=fun wx (hwx:Ext w wx)=>HKB.out wx (hm.x.trans hwx)
     have hx0:=hm.x
     refine rgE 13 53 ?_
     simp only [tSC,tZe,dSC,dZe,mCo,mNi]
     repeat (first
         | (apply walk_is rfl rfl rfl
            · (intro wx hwx;(with_reducible apply gq_row1 ((r1) wx hwx));infer_instance;exact rfl;exact P0.out)
            · (simp only [Act.put,sIB,sCS,sCZ];rfl))
         | (apply walk_is rfl rfl rfl
            · (intro wx hwx;(with_reducible apply gq_row1 ((r1) wx hwx));infer_instance;exact rfl;exact P1.out)
            · (simp only [Act.put,sIB,sCS,sCZ];rfl))
         | (apply walk_is rfl rfl rfl
            · (intro wx hwx;(with_reducible apply gq_rdW ((d0) wx hwx));infer_instance;exact rfl;(focus (first|rfl|omega|(simp;done)|(simp;omega))))
            · (simp only [Act.put,sIB,sCS,sCZ];rfl))
         | (apply walk_is rfl rfl rfl
            · (intro wx hwx;first|((with_reducible show qGl);first|(exact zK (hm.ext hwx)))|(go_simp;(try go_bits);first|exact gives_same|exact gives_skip|with_reducible exact gives_call (HB.out wx (hx0.trans hwx))))
            · (simp only [Act.put,sIB,sCS,sCZ];rfl))
         | (apply walk_not rfl rfl rfl
            · (simp only [Act.put,sIB,sCS,sCZ];rfl)))
     intro wz hwz
     simp only [zCC,zNR]
     repeat (first|rw [fin_is]|(rw [fin_cons];intro _ _))
     rw [fin_nil]
     try (replace hm:=hm.ext hwz)
     simp only [Act.put,sIB,sCS,sCZ]
     clear r1 d0 hx0
     go_wp2_with (first|((((with_reducible show qSt);first|(refine zE hm ?_)));clear hm;intro w hm))
     simp only [Act.put,sIB,sCS,sCZ]
     go_roundw
     case rel=>exact⟨j,by omega,by go_num,by rw [←HX1.out];exact hm⟩
     case measure=>simp [intOf]<;>omega
theorem anum_dec(g:Nat)(k0 kl:List Byte)(ks:List (List Byte))(lo hi:BitVec 64)(w0:World)(h:AesR w0 g k0 ks kl):Gives Tryz.prog 180 #[.func (.func 181) #[.pointer (some ⟨g,0,none⟩)] #[],WV lo hi] w0 (WV (num (aesD k0 ks kl (putL lo 8++putL hi 8)) 0 8) (num (aesD k0 ks kl (putL lo 8++putL hi 8)) 8 8)):=by
 unfold Gives
 have hm:=Own.start w0
 have BB:=hid fun w=>bytes_any lo hi w
 have lP:(putL lo 8++putL hi 8).length=16:=by rw [List.length_append,putL_length,putL_length]
 have EN:=hid fun w (hx:Ext w0 w)=>decrypt_any g k0 kl ks (putL lo 8++putL hi 8) lP w (h.ext hx)
 have lE:=aesD_length k0 ks kl (putL lo 8++putL hi 8)
 obtain⟨Pb,hPb⟩:=exq (putL lo 8++putL hi 8)
 rw [←hPb]at BB lP EN lE⊢
 obtain⟨E,hE⟩:=exq (aesD k0 ks kl Pb)
 rw [←hE]at EN lE⊢
 have LD:=hid fun (w:World)(q:Option Addr)(d:Nat)(h:RdB w q E)=>(show Gives Tryz.prog 183 #[.slice q 16 d] w (WV (num E 0 8) (num E 8 8))from by
   have:=load_any E q d w h (by omega);rwa [lE]at this)
 have h1:=Nat.le_of_eq lE
 have h2:=Nat.le_of_eq lE.symm
 clear h hPb hE lP
 go_enter Tryz.func180,Tryz.ntmps180
 go_wp2_with (first|(go_at_call 186;(with_reducible refine(BB.out _).mono ?_);rintro e_ w ⟨rfl,hx_⟩;replace hm:=hm.ext hx_;clear hx_)|(go_at_call 181;(with_reducible refine(EN.out _ hm.x).mono ?_);rintro e_ w ⟨rfl,hx_⟩;replace hm:=hm.ext hx_;clear hx_)|(go_at_call 183;(with_reducible refine(LD.out _ _ _ (hm.rdB (l:=E) (by repeat (first|exact Has.hd|assumption|apply Has.tl|apply Has.app)))).mono ?_);rintro e_ w ⟨rfl,hx_⟩;replace hm:=hm.ext hx_;clear hx_)|((with_reducible show qLd);first|(refine zB hm ?_))|((((with_reducible show qSt);first|(refine zE hm ?_)));clear hm;intro w hm)|((first|((with_reducible show qAl);first|(refine zG hm ?_))|((with_reducible show qBx);first|(refine zH hm ?_)));clear hm;intro gx_;intro w hm))
 refine rtO hm rfl rfl ⟨rfl,hm.x⟩
theorem hdec1_any(g gc:Nat)(k0 kl h l b:List Byte)(ks:List (List Byte))(hb:b.length=16)(w0:World)(hh:HcR w0 g k0 ks kl h l)(hc:Row w0 gc 100 [.pointer (some ⟨g,0,none⟩)]):Gives Tryz.prog 214 #[A8 b, .pointer (some ⟨gc,0,none⟩)] w0 (A8 (aesD k0 ks kl b)):=by
 unfold Gives
 have hm:=Own.start w0
 obtain⟨gk,h1,h2,_,_⟩:=hh
 have HR:=hid fun w (hx:Ext w0 w)=>row_ext h1 hx
 have HC:=hid fun w (hx:Ext w0 w)=>row_ext hc hx
 have EN:=hid fun w (hx:Ext w0 w)=>decrypt_any gk k0 kl ks b hb w (h2.ext hx)
 have lE:=aesD_length k0 ks kl b
 generalize aesD k0 ks kl b=E at*
 have EK:Hid ((hcC gk h l)[0]? =some (.pointer (some ⟨gk,0,none⟩))):=hid rfl
 obtain⟨PC,hPC⟩:=exq (hcC gk h l)
 rw [←hPC]at HR EK
 have h3:=Nat.le_of_eq hb
 have h4:=Nat.le_of_eq hb.symm
 have h5:=Nat.le_of_eq lE
 have h6:=Nat.le_of_eq lE.symm
 clear h1 h2 hc hPC hb
 go_enter Tryz.func214,Tryz.ntmps214
 go_wp2_with (first|((first|((with_reducible show qAl);first|(refine zG hm ?_))|((with_reducible show qBx);first|(refine zH hm ?_)));clear hm;intro gx_;intro w hm))
 have hx0:=hm.x
 have a1:=fun wx (hwx:Ext w wx)=>EN.out wx (hx0.trans hwx)
 have R1:=hid fun wx (hwx:Ext w wx)=>HR.out wx (hx0.trans hwx)
 have R2:=hid fun wx (hwx:Ext w wx)=>HC.out wx (hx0.trans hwx)
 refine rgE 6 10 ?_
 simp only [tSC,tZe,dSC,dZe,mCo,mNi]
 repeat (first
     | (apply walk_is rfl rfl rfl
        · (intro wx hwx;(with_reducible apply gq_row1 ((R2.out) wx hwx));infer_instance;exact rfl;exact rfl)
        · (simp only [Act.put,sIB,sCS,sCZ];rfl))
     | (apply walk_is rfl rfl rfl
        · (intro wx hwx;(with_reducible apply gq_row1 ((R1.out) wx hwx));infer_instance;exact rfl;(exact EK.out))
        · (simp only [Act.put,sIB,sCS,sCZ];rfl))
     | (apply walk_is rfl rfl rfl
        · (intro wx hwx;first|((with_reducible show qGl);first|(exact zK (hm.ext hwx)))|(go_simp;(try go_bits);first|exact gives_same|exact gives_skip|with_reducible exact gives_call (a1 wx hwx)))
        · (simp only [Act.put,sIB,sCS,sCZ];rfl))
     | (apply walk_not rfl rfl rfl
        · (simp only [Act.put,sIB,sCS,sCZ];rfl)))
 intro wz hwz
 simp only [zCC,zNR]
 repeat (first|rw [fin_is]|(rw [fin_cons];intro _ _))
 rw [fin_nil]
 try (replace hm:=hm.ext hwz)
 simp only [Act.put,sIB,sCS,sCZ]
 clear a1 hx0
 go_wp2_with (first|((((with_reducible show qSt);first|(refine zE hm ?_)));clear hm;intro w hm))
 refine rtO hm rfl rfl ⟨rfl,hm.x⟩
theorem hdec_any(g n:Nat)(k0 kl h l t m:List Byte)(ks:List (List Byte))(ht:t.length≤500)(hl:m.length=n+16)(hn:n<400)(p q:Option Addr)(c d:Nat)(hc:t.length≤c)(hd:n+16≤d)(w0:World)(hh:HcR w0 g k0 ks kl h l)(hr:RdB w0 p t)(hq:RdB w0 q m):
   Calls Tryz.prog 210 #[.pointer (some ⟨g,0,none⟩), .slice p t.length c, .slice q (n+16) d] w0 fun e w'=>∃v M R,e= .returned (.tuple #[v, .int .i64 0])∧Own w0 w' (M++R)∧SlO M 5 1 v (n+16) ((hcDo k0 ks kl h l (aesD k0 ks kl) t m).map v8):=by
 have hm:=Own.start w0
 have DO:=hid fun (gc:Nat)(w:World)(hx:Ext w0 w)(hc1:Row w gc 100 [.pointer (some ⟨g,0,none⟩)])=>hdoes_gen 214 (fun args w=>by kernel_rfl) g gc n k0 kl h l t m ks (aesD k0 ks kl) (fun x=>aesD_length _ _ _ _) ht hl hn p q c d hc hd w (hh.ext hx) (hr.ext hx) (hq.ext hx) (fun wx hwx b hb=>hdec1_any g gc k0 kl h l b ks hb wx ((hh.ext hx).ext hwx) (row_ext hc1 hwx))
 generalize hcDo k0 ks kl h l (aesD k0 ks kl) t m=OUT at*
 obtain⟨TL,hTL⟩:=exq (t.length)
 rw [←hTL]at DO⊢
 clear hr hq hh hl ht hc hTL
 go_enter Tryz.func210,Tryz.ntmps210
 go_wp2_with (first|((with_reducible apply wq_box1 (v:= .pointer (some ⟨g,0,none⟩)) hm);exact rfl;exact rfl;exact rfl;clear hm;intro g1 w hm)|((with_reducible show qLd);first|(refine zC hm ?_)))
 refine(DO.out g1 w hm.x (hm.row .hd)).mono ?_
 rintro e_ w ⟨v5,M5,R5,rfl,hm1,hs5⟩
 replace hm:=hm1.rebase hm.x
 clear hm1
 go_wp2_with fail
 go_ret2
 exact⟨_,M5,_,rfl,hm,hs5⟩
def aezD(key t m:List Byte):List Byte:=tinyL (eZ (keyOf key)) (hashG (eZ (keyOf key)) [t]) true m
theorem adec_any(g n:Nat)(P:AdP)(t m:List Byte)(ht:t.length≤70368744177000)(hl:m.length=n+16)(hn:n<400)(p q:Option Addr)(c d:Nat)(hc:t.length≤c)(hd:n+16≤d)(w0:World)(h:AdiP w0 g P)(hr:RdB w0 p t)(hq:RdB w0 q m):
   Calls Tryz.prog 173 #[.pointer (some ⟨g,0,none⟩), .slice p t.length c, .slice q (n+16) d] w0 fun e w'=>∃v M R,e= .returned (.tuple #[v, .int .i64 0])∧Own w0 w' (M++R)∧SlO M 5 1 v (n+16) ((adDe P t m n).map v8):=by
 have hm:=Own.start w0
 obtain⟨gk,gs,h1,hk,h2,h3⟩:=h
 have HR:=hid fun w (hx:Ext w0 w)=>row_ext h1 hx
 have EK:=hid (adiC_k P.key (some ⟨gk,0,none⟩) (some ⟨gs,0,none⟩) hk)
 have ES:=hid (adiC_s P.key (some ⟨gk,0,none⟩) (some ⟨gs,0,none⟩) hk)
 have PA:=hid fun w (hx:Ext w0 w)=>aparts_any m n hl hn q d hd w (hq.ext hx)
 have lB0:(m.take n).length=n:=by rw [List.length_take];omega
 have lB1:=adBulkD_length P t m n (by omega)
 have S1:=hid fun (w:World)(hx:Ext w0 w)(q2:Option Addr)(d2:Nat)(hq2:RdB w q2 (m.take n))=>(show Gives Tryz.prog 177 #[.pointer (some ⟨gs,0,none⟩), .slice p t.length c, .slice q2 n d2] w (WV (adSum P t (m.take n)).1 (adSum P t (m.take n)).2)from by
   have:=asum_any gs P.tw P.ms t (m.take n) P.W ht (by omega) p q2 c d2 hc w (h3.ext hx) (hr.ext hx) hq2
   rwa [lB0]at this)
 have PL:=hid fun w=>(show Gives Tryz.prog 132 #[WV (num (rgt m n) 0 8) (num (rgt m n) 8 8),WV (adSum P t (m.take n)).1 (adSum P t (m.take n)).2] w (WV (adMidD P t m n).1 (adMidD P t m n).2)from oplus_any _ _ _ _ w)
 have NU:=hid fun w (hx:Ext w0 w)=>(show Gives Tryz.prog 180 #[.func (.func 181) #[.pointer (some ⟨gk,0,none⟩)] #[],WV (adMidD P t m n).1 (adMidD P t m n).2] w (WV (wOf (aesD P.k0 P.ks P.kl (wBytes (adMidD P t m n)))).1 (wOf (aesD P.k0 P.ks P.kl (wBytes (adMidD P t m n)))).2)from anum_dec gk P.k0 P.kl P.ks _ _ w (h2.ext hx))
 have ST:=hid fun (w:World)(hx:Ext w0 w)(q2:Option Addr)(d2:Nat)(hd2:n≤d2)(hq2:RdB w q2 (m.take n))=>(show Calls Tryz.prog 178 #[.pointer (some ⟨g,0,none⟩),WV (adMidD P t m n).1 (adMidD P t m n).2, .slice q2 n d2] w fun e w'=>∃p c,e= .returned (.slice p n c)∧n≤c∧RdB w' p (adBulkD P t m n)∧Ext w w' from by
   have:=astream_any g P.key (m.take n) (some ⟨gk,0,none⟩) (some ⟨gs,0,none⟩) (adMidD P t m n).1 (adMidD P t m n).2 hk (by omega) q2 d2 (by omega) w (row_ext h1 hx) hq2
   rw [lB0]at this
   exact this)
 have S2:=hid fun (w:World)(hx:Ext w0 w)(q2:Option Addr)(d2:Nat)(hq2:RdB w q2 (adBulkD P t m n))=>(show Gives Tryz.prog 177 #[.pointer (some ⟨gs,0,none⟩), .slice p t.length c, .slice q2 n d2] w (WV (adSum P t (adBulkD P t m n)).1 (adSum P t (adBulkD P t m n)).2)from by
   have:=asum_any gs P.tw P.ms t (adBulkD P t m n) P.W ht (by omega) p q2 c d2 hc w (h3.ext hx) (hr.ext hx) hq2
   rwa [lB1]at this)
 have MI:=hid fun w=>(show Gives Tryz.prog 182 #[WV (wOf (aesD P.k0 P.ks P.kl (wBytes (adMidD P t m n)))).1 (wOf (aesD P.k0 P.ks P.kl (wBytes (adMidD P t m n)))).2,WV (adSum P t (adBulkD P t m n)).1 (adSum P t (adBulkD P t m n)).2] w (WV (wMinus (wOf (aesD P.k0 P.ks P.kl (wBytes (adMidD P t m n)))) (adSum P t (adBulkD P t m n))).1 (wMinus (wOf (aesD P.k0 P.ks P.kl (wBytes (adMidD P t m n)))) (adSum P t (adBulkD P t m n))).2)from ominus_any _ _ _ _ w)
 have JO:=hid fun (w wx:World)(hx:Ext w wx)(q2:Option Addr)(d2:Nat)(hd2:n≤d2)(hq2:RdB wx q2 (adBulkD P t m n))=>(show GivesR Tryz.prog 179 #[.slice q2 n d2,WV (wMinus (wOf (aesD P.k0 P.ks P.kl (wBytes (adMidD P t m n)))) (adSum P t (adBulkD P t m n))).1 (wMinus (wOf (aesD P.k0 P.ks P.kl (wBytes (adMidD P t m n)))) (adSum P t (adBulkD P t m n))).2] wx (NewL w.heap.size (n+16) (adDe P t m n))from by
   have h0:=ajoined_any (adBulkD P t m n) (wMinus (wOf (aesD P.k0 P.ks P.kl (wBytes (adMidD P t m n)))) (adSum P t (adBulkD P t m n))).1 (wMinus (wOf (aesD P.k0 P.ks P.kl (wBytes (adMidD P t m n)))) (adSum P t (adBulkD P t m n))).2 (by omega) q2 d2 (by omega) wx hq2
   rw [lB1]at h0
   refine Calls.mono h0 ?_
   rintro e w' ⟨v,M,R,rfl,hm1,hs⟩
   exact⟨v,rfl,newL_of (by omega) hx.size hm1 hs,hm1.x⟩)
 have AW:=hid fun w=>awrong_any g q (n+16) d (by omega) w
 generalize (adSum P t (m.take n)).1=s1 at*
 generalize (adSum P t (m.take n)).2=s2 at*
 generalize num (rgt m n) 0 8=r1 at*
 generalize num (rgt m n) 8 8=r2 at*
 generalize (wMinus (wOf (aesD P.k0 P.ks P.kl (wBytes (adMidD P t m n)))) (adSum P t (adBulkD P t m n))).1=y1 at*
 generalize (wMinus (wOf (aesD P.k0 P.ks P.kl (wBytes (adMidD P t m n)))) (adSum P t (adBulkD P t m n))).2=y2 at*
 generalize (adSum P t (adBulkD P t m n)).1=u1 at*
 generalize (adSum P t (adBulkD P t m n)).2=u2 at*
 generalize (wOf (aesD P.k0 P.ks P.kl (wBytes (adMidD P t m n)))).1=v1 at*
 generalize (wOf (aesD P.k0 P.ks P.kl (wBytes (adMidD P t m n)))).2=v2 at*
 generalize (adMidD P t m n).1=e1 at*
 generalize (adMidD P t m n).2=e2 at*
 generalize adDe P t m n=OUT at*
 generalize adBulkD P t m n=B1 at*
 generalize m.take n=B0 at*
 generalize adiC P.key (some ⟨gk,0,none⟩) (some ⟨gs,0,none⟩)=PC at*
 obtain⟨TL,hTL⟩:=exq (t.length)
 rw [←hTL]at S1 S2⊢
 have LB0:=hid lB0
 have LB1:=hid lB1
 clear h1 h2 h3 hr hq ht hl hk hc hTL lB0 lB1
 go_enter Tryz.func173,Tryz.ntmps173
 go_wp2_with (first|(go_at_call 175;(with_reducible refine(AW.out _).mono ?_);rintro e_ w_ ⟨rfl,rfl⟩)|(go_at_call 176;(with_reducible refine(PA.out _ hm.x).mono ?_);rintro e_ w ⟨v1,M1,R1,rfl,hm1,hs1⟩;replace hm:=hm.join hm1;obtain⟨p1,c1,rfl⟩:=hs1.form;clear hm1)|((((with_reducible show qSt);first|(refine zE hm ?_)));clear hm;intro w hm)|((first|((with_reducible show qAl);first|(refine zG hm ?_)));clear hm;intro gx_;intro w hm))
 rw [List.append_nil]at hm
 have HS1:=hid hs1
 have RB:=hid fun wx L (h:Own w0 wx (L++(M1++R1)))=>slo_rdZ hs1 h.dropN
 have c16:n≤c1:=by
   obtain⟨_,_,hv,h1,_⟩:=hs1.cells hm.drop
   cases hv
   exact h1
 clear hs1
 have hx0:=hm.x
 have hmA:=hm
 have a1:=fun wx (hwx:Ext w wx)=>S1.out wx (hx0.trans hwx) p1 c1 (RB.out wx [_] (hmA.ext hwx))
 have a2:=fun wx (hwx:Ext w wx)=>PL.out wx
 have R5:=hid fun wx (hwx:Ext w wx)=>HR.out wx (hx0.trans hwx)
 refine region_new 10 (fun w'=>Ext _ w') 53 (by kernel_rfl) (by kernel_rfl) rfl (fun _ _ h k=>h.trans k) (drew_ext _) ?_
 simp only [tSC,tZe,dSC,dZe,mCo,mNi]
 repeat (first
     | (apply walk_some (NewS (w.heap.size) 191 ([v64 0#64,v64 0#64])) 11 (NewS.stable _ _ _) rfl rfl rfl rfl
        · (intro wx hwx;go_simp;exact gives_new (cs:=[v64 0#64,v64 0#64]) hwx.size))
     | (apply walk_is rfl rfl rfl
        · (intro wx hwx;(with_reducible apply gq_row1 ((R5.out) wx hwx));infer_instance;exact rfl;(first|exact EK.out|exact ES.out))
        · (simp only [Act.put,sIB,sCS,sCZ];rfl))
     | (apply walk_is rfl rfl rfl
        · (intro wx hwx;first|((with_reducible show qGl);first|(exact zK (hm.ext hwx)))|(go_simp;(try go_bits);first|exact gives_same|exact gives_skip|with_reducible exact gives_call (a1 wx hwx)|with_reducible exact gives_call (a2 wx hwx)))
        · (simp only [Act.put,sIB,sCS,sCZ];rfl))
     | (apply walk_not rfl rfl rfl
        · (simp only [Act.put,sIB,sCS,sCZ];rfl)))
 intro wz hwz
 simp only [zCC,zNR]
 repeat rw [fin_is]
 rw [fin_cons];intro x11 hx11
 repeat rw [fin_is]
 rw [fin_nil];intro hap
 simp only [Act.put,sIB,sCS,sCZ]at hap⊢
 obtain⟨g11_,rfl,hg11,hr11⟩:=hx11
 replace hm:=hm.push hwz hg11 hr11
 clear hap hr11
 clear a1 a2 hmA hx0 R5
 go_wp2_with (first|((with_reducible show qLd);first|(refine zB hm ?_))|((((with_reducible show qSt);first|(refine zE hm ?_)));clear hm;intro w hm))
 refine(ST.out w hm.x p1 c1 c16 (RB.out w [_,_] hm)).mono ?_
 rintro e_ w ⟨p2,c2,rfl,hc2,hr2,hx_⟩
 replace hm:=hm.ext hx_
 clear hx_
 have HR2:=hid hr2
 clear hr2
 go_wp2_with fail
 have hx0:=hm.x
 have hmA:=hm
 have a1:=fun wx (hwx:Ext w wx)=>S2.out wx (hx0.trans hwx) p2 c2 (HR2.out.ext hwx)
 have a2:=fun wx (hwx:Ext w wx)=>MI.out wx
 have a4:=fun wx (hwx:Ext w wx)=>NU.out wx (hx0.trans hwx)
 have a3:=fun wx (hwx:Ext w wx)=>JO.out w wx hwx p2 c2 hc2 (HR2.out.ext hwx)
 have R5:=hid fun wx (hwx:Ext w wx)=>HR.out wx (hx0.trans hwx)
 refine region_new 17 (fun w'=>Ext _ w') 53 (by kernel_rfl) (by kernel_rfl) rfl (fun _ _ h k=>h.trans k) (drew_ext _) ?_
 simp only [tSC,tZe,dSC,dZe,mCo,mNi]
 repeat (first
     | (apply walk_is rfl rfl rfl
        · (intro wx hwx;(with_reducible apply gq_row1 ((R5.out) wx hwx));infer_instance;exact rfl;(first|exact EK.out|exact ES.out))
        · (simp only [Act.put,sIB,sCS,sCZ];rfl))
     | (apply walk_some (NewL w.heap.size (n+16) OUT) 52 (NewL.stable _ _ _) rfl rfl rfl rfl
        · (intro wx hwx;go_simp;with_reducible exact gives_callR (a3 wx hwx)))
     | (apply walk_is rfl rfl rfl
        · (intro wx hwx;first|((with_reducible show qGl);first|(exact zK (hm.ext hwx)))|(go_simp;(try go_bits);first|exact gives_same|exact gives_skip|with_reducible exact gives_call (a1 wx hwx)|with_reducible exact gives_call (a2 wx hwx)|with_reducible exact gives_call (a4 wx hwx)))
        · (simp only [Act.put,sIB,sCS,sCZ];rfl))
     | (apply walk_not rfl rfl rfl
        · (simp only [Act.put,sIB,sCS,sCZ];rfl)))
 intro wz hwz
 simp only [zCC,zNR]
 repeat rw [fin_is]
 rw [fin_cons];intro x52 hx52
 repeat rw [fin_is]
 rw [fin_nil];intro hap
 simp only [Act.put,sIB,sCS,sCZ]at hap⊢
 obtain⟨gj,oj,dj,cur,rfl,hgj,hrj,hsj⟩:=hx52
 clear hm a1 a2 a3 a4 hap hx0 R5
 have hm:=hmA.push hwz hgj hrj
 clear hmA hwz hgj hrj
 have HSJ:=hid hsj
 clear hsj
 go_wp2_with fail
 go_ret2
 exact⟨_,[⟨gj,5,cur⟩],_,rfl,hm,HSJ.out⟩
def methN (bk : Bool) : String := if bk = true then "Decipher" else "Encipher"
theorem turned_gen(bk:Bool)(g K TL:Nat)(lst:Int)(T:TypeId)(x r:Value)(f:FuncId)(hFV:∀args w,(callFunc f args).run Tryz.prog w= .ok (.enter f args) w)(X:List Byte)(p q:Option Addr)(c d:Nat)(w0:World)(hl:¬(K:Int)<lst)
   (c1:w0.cell? ⟨g,1,none⟩=some (.iface T x))
   (LE:Calls Tryz.prog 39 #[.pointer (some ⟨g,0,none⟩)] w0 fun e w'=>e= .returned (.int .i64 lst)∧w0=w')
   (me:∀n w,(method (n+1) T x (methN bk)).run Tryz.prog w= .ok (f,r) w)
   (EN:Calls Tryz.prog f #[r, .slice p TL c, .slice q K d] w0 fun e w'=>∃px cx,e= .returned (.tuple #[.slice px K cx, .int .i64 0])∧K≤cx∧RdB w' px X∧Ext w0 w'):
   Calls Tryz.prog 27 #[.pointer (some ⟨g,0,none⟩), .slice p TL c, .slice q K d, .bool bk] w0 fun e w'=>∃px cx,e= .returned (.tuple #[.slice px K cx, .int .i64 0])∧K≤cx∧RdB w' px X∧Ext w0 w':=by
 have HE:=hid EN
 have HL:=hid LE
 have d3:decide ((K:Int)<lst)=false:=decide_eq_false hl
 clear EN LE
 cases bk
 · have me : ∀ n w, (method (n + 1) T x "Encipher").run Tryz.prog w = .ok (f, r) w := me
   go_enter Tryz.func27,Tryz.ntmps27
   go_wp2_with (go_at_call 39;(with_reducible refine(HL.out).mono ?_);rintro e_ w ⟨rfl,rfl⟩)
   refine(HE.out).mono ?_
   rintro e_ w ⟨px,cx,rfl,hcx,hpx,hx⟩
   go_wp2_with fail
   go_ret2
   exact⟨px,cx,rfl,hcx,hpx,hx⟩
 · have me : ∀ n w, (method (n + 1) T x "Decipher").run Tryz.prog w = .ok (f, r) w := me
   go_enter Tryz.func27,Tryz.ntmps27
   go_wp2_with (go_at_call 39;(with_reducible refine(HL.out).mono ?_);rintro e_ w ⟨rfl,rfl⟩)
   refine(HE.out).mono ?_
   rintro e_ w ⟨px,cx,rfl,hcx,hpx,hx⟩
   go_wp2_with fail
   go_ret2
   exact⟨px,cx,rfl,hcx,hpx,hx⟩
theorem meth_ade (n : Nat) (p : Addr) (w : World) : (method (n + 1) 97 (.pointer (some p)) "Encipher").run Tryz.prog w = .ok (174, .pointer (some p)) w := by kernel_rfl
theorem meth_hce (n : Nat) (p : Addr) (w : World) : (method (n + 1) 100 (.pointer (some p)) "Encipher").run Tryz.prog w = .ok (211, .pointer (some p)) w := by kernel_rfl
theorem meth_eze (n : Nat) (v : Value) (w : World) : (method (n + 1) 107 (.agg #[v]) "Encipher").run Tryz.prog w = .ok (234, .agg #[v]) w := by kernel_rfl
theorem meth_add (n : Nat) (p : Addr) (w : World) : (method (n + 1) 97 (.pointer (some p)) "Decipher").run Tryz.prog w = .ok (173, .pointer (some p)) w := by kernel_rfl
theorem meth_hcd (n : Nat) (p : Addr) (w : World) : (method (n + 1) 100 (.pointer (some p)) "Decipher").run Tryz.prog w = .ok (210, .pointer (some p)) w := by kernel_rfl
theorem meth_ezd (n : Nat) (v : Value) (w : World) : (method (n + 1) 107 (.agg #[v]) "Decipher").run Tryz.prog w = .ok (233, .agg #[v]) w := by kernel_rfl
theorem slo_post {P:Program}{f:FuncId}{xs:Array Value}{w:World}{K:Nat}{X:List Byte}(h:Calls P f xs w fun e w'=>∃v M R,e= .returned (.tuple #[v, .int .i64 0])∧Own w w' (M++R)∧SlO M 5 1 v K (X.map v8)):Calls P f xs w fun e w'=>∃px cx,e= .returned (.tuple #[.slice px K cx, .int .i64 0])∧K≤cx∧RdB w' px X∧Ext w w':=
 h.mono fun e w' ⟨v,M,R,h1,h2,h3⟩=>by
   obtain⟨px,cx,rfl,h4,h5⟩:=slo_read h2 h3
   exact⟨px,cx,h1,h5,h4,h2.x⟩
def SchOk(al:Int)(key:List Byte):Prop:=(al=1∧key.length=32)∨(al=2∧(key.length=16∨key.length=24∨key.length=32))∨(al=3∧0<key.length∧key.length≤128)
def SchR(al:Int)(key:List Byte)(v:Value)(w:World):Prop:=∃gi,
 (al=1∧v= .iface 97 (.pointer (some ⟨gi,0,none⟩))∧AdiP w gi (adPk key))
 ∨(al=2∧v= .iface 100 (.pointer (some ⟨gi,0,none⟩))∧HcR w gi (eK0 key) (eKs key) (eKl key) (hcH key) (hcL key))
 ∨(al=3∧v= .iface 107 (.agg #[.pointer (some ⟨gi,0,none⟩)])∧KeyR w gi (keyOf key))
theorem SchR.cip {al:Int}{key:List Byte}{v:Value}{w:World}{g:Nat}(h:SchR al key v w)(hr:Row w g 79 [.int .i64 al,v]):CipR w g al key:=by
 obtain⟨gi,⟨h1,h2,h3⟩|⟨h1,h2,h3⟩|⟨h1,h2,h3⟩⟩:=h
 · exact⟨gi, .inl ⟨h1,by subst h1;subst h2;exact hr,h3⟩⟩
 · exact⟨gi, .inr (.inl ⟨h1,by subst h1;subst h2;exact hr,h3⟩)⟩
 · exact⟨gi, .inr (.inr ⟨h1,by subst h1;subst h2;exact hr,h3⟩)⟩
theorem adPk_of {w:World}{g:Nat}{key:List Byte}(h:AdiK w g key):AdiP w g (adPk key):=by unfold adPk;exact h
theorem schemed1_any(gt gb:Nat)(key:List Byte)(hk:key.length=32)(p:Option Addr)(c:Nat)(hc:key.length≤c)(w0:World)(hr:RdB w0 p key)(ht:TabR gt gb w0)(hcb:CoefB w0):
   Calls Tryz.prog 36 #[.pointer (some ⟨gt,0,none⟩), .int .i64 1, .slice p key.length c] w0 fun e w'=>∃v L,e= .returned (.tuple #[v, .int .i64 0])∧Own w0 w' L∧Keeps L (TabR gt gb) (SchR 1 key v)∧∃T x,v= .iface T x:=by
 have hm:=Own.start w0
 have EN:=hid (adinew_any gt gb key hk p c (by omega) w0 hr ht)
 have KE:=hid fun (gi:Nat)(L:List Blk)(h:Keeps L (TabR gt gb) (fun wx=>AdiK wx gi key))=>(show Keeps L (TabR gt gb) (SchR 1 key (.iface 97 (.pointer (some ⟨gi,0,none⟩))))from(fun wx h1 h2=>⟨gi, .inl ⟨rfl,rfl,adPk_of (h wx h1 h2)⟩⟩))
 obtain⟨TL,hTL⟩:=exq (key.length)
 rw [hk]at hTL
 rw [hk];subst hTL
 clear hr ht hcb hc
 go_enter Tryz.func36,Tryz.ntmps36
 go_wp2_with fail
 refine(EN.out).mono ?_
 rintro e_ w ⟨gi,L,rfl,_,hm,hk1⟩
 go_wp2_with fail
 go_ret2
 exact⟨_,L,rfl,hm,KE.out gi L hk1,_,_,rfl⟩
theorem schemed2_any(gt gb:Nat)(key:List Byte)(hk:key.length=16∨key.length=24∨key.length=32)(p:Option Addr)(c:Nat)(hc:key.length≤c)(w0:World)(hr:RdB w0 p key)(ht:TabR gt gb w0)(hcb:CoefB w0):
   Calls Tryz.prog 36 #[.pointer (some ⟨gt,0,none⟩), .int .i64 2, .slice p key.length c] w0 fun e w'=>∃v L,e= .returned (.tuple #[v, .int .i64 0])∧Own w0 w' L∧Keeps L (TabR gt gb) (SchR 2 key v)∧∃T x,v= .iface T x:=by
 have hm:=Own.start w0
 have EN:=hid (hnew_any gt gb key hk p c hc w0 hr ht)
 have KE:=hid fun (gi:Nat)(L:List Blk)(h:Keeps L (TabR gt gb) (fun wx=>HcR wx gi (eK0 key) (eKs key) (eKl key) (hcH key) (hcL key)))=>(show Keeps L (TabR gt gb) (SchR 2 key (.iface 100 (.pointer (some ⟨gi,0,none⟩))))from(fun wx h1 h2=>⟨gi, .inr (.inl ⟨rfl,rfl,h wx h1 h2⟩)⟩))
 obtain⟨TL,hTL⟩:=exq (key.length)
 skip
 rw [←hTL]at EN⊢
 clear hr ht hcb hc hTL
 go_enter Tryz.func36,Tryz.ntmps36
 go_wp2_with fail
 refine(EN.out).mono ?_
 rintro e_ w ⟨gi,L,rfl,_,hm,hk1⟩
 go_wp2_with fail
 go_ret2
 exact⟨_,L,rfl,hm,KE.out gi L hk1,_,_,rfl⟩
theorem schemed3_any(gt gb:Nat)(key:List Byte)(h0:0<key.length)(h1:key.length≤128)(p:Option Addr)(c:Nat)(hc:key.length≤c)(w0:World)(hr:RdB w0 p key)(ht:TabR gt gb w0)(hcb:CoefB w0):
   Calls Tryz.prog 36 #[.pointer (some ⟨gt,0,none⟩), .int .i64 3, .slice p key.length c] w0 fun e w'=>∃v L,e= .returned (.tuple #[v, .int .i64 0])∧Own w0 w' L∧Keeps L (TabR gt gb) (SchR 3 key v)∧∃T x,v= .iface T x:=by
 have hm:=Own.start w0
 have EN:=hid (ext_ok gt gb key p c w0 h0 h1 hc hr hcb ht.1)
 have KE:=hid fun (gi:Nat)(L:List Blk)(h:Has L ⟨gi,139,kcells gt (keyOf key)⟩)=>(show Keeps L (TabR gt gb) (SchR 3 key (.iface 107 (.agg #[.pointer (some ⟨gi,0,none⟩)])))from(fun wx h1 h2=>⟨gi, .inr (.inr ⟨rfl,rfl,keyOf_ok key,gt,gb,h1 _ h.mem,h2.1⟩)⟩))
 obtain⟨TL,hTL⟩:=exq (key.length)
 skip
 rw [←hTL]at EN⊢
 clear hr ht hcb hc hTL
 go_enter Tryz.func36,Tryz.ntmps36
 go_wp2_with fail
 refine(EN.out).mono ?_
 rintro e_ w ⟨gi,rfl,hg,hrow,hx⟩
 replace hm:=hm.push hx hg hrow
 clear hx hg hrow
 go_wp2_with fail
 go_ret2
 exact⟨_,_,rfl,hm,KE.out gi _ .hd,_,_,rfl⟩
theorem schemed_any(al:Int)(gt gb:Nat)(key:List Byte)(hk:SchOk al key)(p:Option Addr)(c:Nat)(hc:key.length≤c)(w0:World)(hr:RdB w0 p key)(ht:TabR gt gb w0)(hcb:CoefB w0):
   Calls Tryz.prog 36 #[.pointer (some ⟨gt,0,none⟩), .int .i64 al, .slice p key.length c] w0 fun e w'=>∃T x L,e= .returned (.tuple #[.iface T x, .int .i64 0])∧Own w0 w' L∧Keeps L (TabR gt gb) (SchR al key (.iface T x)):=by
 have F:∀{e:Ending} {w':World},(∃v L,e= .returned (.tuple #[v, .int .i64 0])∧Own w0 w' L∧Keeps L (TabR gt gb) (SchR al key v)∧∃T x,v= .iface T x)→∃T x L,e= .returned (.tuple #[.iface T x, .int .i64 0])∧Own w0 w' L∧Keeps L (TabR gt gb) (SchR al key (.iface T x)):=by
   rintro e w' ⟨v,L,h1,h2,h3,T,x,rfl⟩;exact⟨T,x,L,h1,h2,h3⟩
 obtain⟨rfl,h1⟩|⟨rfl,h1⟩|⟨rfl,h1,h2⟩:=hk
 · exact(schemed1_any gt gb key h1 p c hc w0 hr ht hcb).mono fun e w' ⟨v,L,h1,h2,h3,h4⟩=>F ⟨v,L,h1,h2,h3,h4⟩
 · exact(schemed2_any gt gb key h1 p c hc w0 hr ht hcb).mono fun e w' ⟨v,L,h1,h2,h3,h4⟩=>F ⟨v,L,h1,h2,h3,h4⟩
 · exact(schemed3_any gt gb key h1 h2 p c hc w0 hr ht hcb).mono fun e w' ⟨v,L,h1,h2,h3,h4⟩=>F ⟨v,L,h1,h2,h3,h4⟩
theorem build_wc(al:Int)(T:TypeId)(x:Value)(w:World):(Instr.build 79 #[(0, .int .i64 al),(1, .iface T x)]).run Tryz.prog w= .ok (.agg ([.int .i64 al, .iface T x]:List Value).toArray) w:=by kernel_rfl
theorem wnew_any(al:Int)(gt gb:Nat)(key:List Byte)(hk:SchOk al key)(p:Option Addr)(c:Nat)(hc:key.length≤c)(w0:World)(hr:RdB w0 p key)(ht:TabR gt gb w0)(hcb:CoefB w0):
   Calls Tryz.prog 22 #[.pointer (some ⟨gt,0,none⟩), .int .i64 al, .slice p key.length c] w0 fun e w'=>∃g L,e= .returned (.tuple #[.pointer (some ⟨g,0,none⟩), .int .i64 0])∧w0.heap.size≤g∧Own w0 w' L∧Keeps L (TabR gt gb) (fun wx=>CipR wx g al key):=by
 have EN:=hid (schemed_any al gt gb key hk p c hc w0 hr ht hcb)
 have BB:=hid (build_wc al)
 have KE:=hid fun (g:Nat)(L:List Blk)(T:TypeId)(x:Value)(h:Keeps L (TabR gt gb) (SchR al key (.iface T x)))=>(show Keeps (⟨g,79,[.int .i64 al, .iface T x]⟩::L) (TabR gt gb) (fun wx=>CipR wx g al key)from fun wx h1 h2=>(h wx (fun b hb=>h1 b (List.mem_cons_of_mem _ hb)) h2).cip (h1 _ List.mem_cons_self))
 obtain⟨TL,hTL⟩:=exq (key.length)
 rw [←hTL]at EN⊢
 clear hr ht hcb hc hTL hk
 go_enter Tryz.func22,Tryz.ntmps22
 go_wp2_with fail
 refine(EN.out).mono ?_
 rintro e_ w ⟨T,x,L,rfl,hm,hk1⟩
 go_wp2_with (first|((with_reducible apply wq_build2 (BB.out T x));exact rfl;exact rfl;exact rfl)|((with_reducible apply wq_boxN (cs:=[.int .i64 al, .iface T x]) hm);exact rfl;exact rfl;clear hm;intro gw w hm))
 go_ret2
 have:=hm.base .hd
 exact⟨_,_,rfl,this,hm,KE.out _ _ _ _ hk1⟩
end Go.Proofs.YtneacgpmjlocjaaGreatDoor
