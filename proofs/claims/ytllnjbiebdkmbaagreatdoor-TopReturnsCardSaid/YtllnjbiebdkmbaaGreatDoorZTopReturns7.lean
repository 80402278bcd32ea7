/-
  Texts of the program, walked, and plain ones. Conditions: those written in each theorem.
-/
import Derived.Test.YtllnjbiebdkmbaaGreatDoorZTopReturns0
import Derived.Test.YtllnjbiebdkmbaaGreatDoorZTopReturns5
import Derived.Test.YtllnjbiebdkmbaaGreatDoorZTopReturns6
set_option linter.unusedSimpArgs false
set_option linter.unusedVariables false
set_option maxHeartbeats 16000000
namespace Go.Proofs.YtllnjbiebdkmbaaGreatDoor
open Go Go.RowKit
set_option maxRecDepth 100000
theorem brings_any(by_:List Byte)(row:Nat)(a:Byte)(w0:World)(hb:by_.length=4)(hr:row<4):Gives Tryz.prog 38 #[A8 by_, .int .i64 row,v8 a] w0 (v32 (brg by_ row a 4)):=by
 unfold Gives
 have hb1:=Nat.le_of_eq hb
 have hb2:=Nat.le_of_eq hb.symm
 clear hb
 have hm:=Own.start w0
 go_enter Tryz.func38,Tryz.ntmps38
 go_wp2_with (first|((first|((with_reducible show qBx);first|((with_reducible apply wq_boxN hm);exact rfl;exact rfl)));clear hm;intro gx_;intro w hm))
 go_loop [7,9] (fun n i=>∃r:Nat,r≤4∧i= .int .i64 r∧n=v32 (brg by_ row a r)) (fun _ i=>4-(intOf i).toNat)
 case atStart=>exact⟨0,by omega,rfl,rfl⟩
 case round=>
   obtain⟨r,hr4,rfl,rfl⟩:=hrel
   by_cases hlt:r<4
   · obtain⟨q,hq,hq4⟩:∃q:Nat,(row+4-r)%4=q∧q<4:=⟨_,rfl,Nat.mod_lt _ (by omega)⟩
     have he:((row:Int)-(r:Int)+4)%4=(q:Int):=by omega
     have ht:((row:Int)-(r:Int)+4).tmod 4=(q:Int):=by rw [Int.tmod_eq_emod_of_nonneg (by omega)];exact he
     have h8:((8:Int)*(r:Int)).toNat=8*r:=by omega
     have h80:0≤(8:Int)*(r:Int):=by omega
     have hB:brg by_ row a (r+1)=brg by_ row a r|||((tms (nth by_ q) a).setWidth 32<<<(8*r)):=by rw [brg,hq]
     have HB:=Lib.hid hB
     clear hB hq
     go_wp2_with (first|(go_at_call 47;(with_reducible refine(times_any _ _ _).mono ?_);rintro e_ w_ ⟨rfl,rfl⟩)|((with_reducible show qLd);first|((with_reducible apply wq_ldv hm);exact rfl;infer_instance;exact rfl;(focus (repeat first|exact .hd|assumption|apply Has.tl);done);(focus (first|omega|(simp;omega)|(refine ltB ?_;first|omega|(simp;done)|(simp;omega)))))))
     go_round
     case rel=>exact⟨r+1,by omega,by go_num,by rw [HB.out]⟩
     case measure=>simp [intOf]<;>omega
   · obtain rfl:r=4:=by omega
     go_wp2_with fail
     go_ret
     exact⟨rfl,hm.x⟩
def tcells(gb:Nat)(M U:List (BitVec 32)):List Value:= .pointer (some ⟨gb,0,none⟩)::(M.map v32++U.map v32)
@[simp] theorem tcells_length (gb : Nat) (M U : List (BitVec 32)) : (tcells gb M U).length = 1 + M.length + U.length := by simp [tcells]; omega
theorem tcells_mix(gb:Nat)(M U:List (BitVec 32))(i k:Nat)(x:BitVec 32)(hk:k=1+i)(hi:i<M.length):(tcells gb M U).set k (v32 x)=tcells gb (setN M i x) U:=by
 subst hk
 rw [Nat.add_comm]
 simp only [tcells,sCS]
 rw [List.set_append_left _ _ (by simpa using hi),mapv_set]
theorem tcells_unmix(gb:Nat)(M U:List (BitVec 32))(i k:Nat)(x:BitVec 32)(hk:k=1+M.length+i):(tcells gb M U).set k (v32 x)=tcells gb M (setN U i x):=by
 subst hk
 rw [show 1+M.length+i=(M.length+i)+1 from by omega]
 simp only [tcells,sCS]
 rw [List.set_append_right _ _ (by simp),List.length_map,Nat.add_sub_cancel_left,mapv_set]
theorem tcells_ptr(gb:Nat)(M U:List (BitVec 32)):(tcells gb M U)[0]? =some (.pointer (some ⟨gb,0,none⟩)):=rfl
theorem tcells_mix_at(gb:Nat)(M U:List (BitVec 32))(i k:Nat)(hk:k=1+i)(hi:i<M.length):(tcells gb M U)[k]? =some (v32 (nth M i)):=by
 subst hk
 rw [Nat.add_comm]
 simp only [tcells,List.getElem?_cons_succ]
 rw [List.getElem?_append_left (by simpa using hi),mapv_at _ _ hi]
theorem tcells_unmix_at(gb:Nat)(M U:List (BitVec 32))(i k:Nat)(hk:k=1+M.length+i)(hi:i<U.length):(tcells gb M U)[k]? =some (v32 (nth U i)):=by
 subst hk
 rw [show 1+M.length+i=(M.length+i)+1 from by omega]
 simp only [tcells,List.getElem?_cons_succ]
 rw [List.getElem?_append_right (by simp),List.length_map,Nat.add_sub_cancel_left,mapv_at _ _ hi]
theorem build_tables(gb:Nat)(w:World):(Instr.build 78 #[(0, .pointer (some ⟨gb,0,none⟩))]).run Tryz.prog w= .ok (.agg (tcells gb (zer 1024) (zer 1024)).toArray) w:=by kernel_rfl
def Coef(w:World):Prop:=RdB w (some ⟨0,0,none⟩) mixesL∧RdB w (some ⟨1,0,none⟩) unmixesL
theorem Coef.ext {w w':World}(h:Coef w)(hx:Ext w w'):Coef w':=⟨h.1.ext hx,h.2.ext hx⟩
def TabS:Slot:=fun v w=>∃g gb,v= .pointer (some ⟨g,0,none⟩)∧Row w g 78 (tcells gb mixT unmixT)∧Row w gb 91 (tabs.map v8)
theorem TabS.stable:Stable TabS:=fun _ _ _ ⟨g,gb,h1,h2,h3⟩ hx=>⟨g,gb,h1,row_ext h2 hx,row_ext h3 hx⟩
theorem to_G(g:Nat)(a:Byte)(w:World)(h:Row w g 91 (tabs.map v8)):Gives Tryz.prog 35 #[.pointer (some ⟨g,0,none⟩),v8 a] w (v8 (bxTo a)):= .of_same (to_any g a w h)
theorem back_G(g:Nat)(a:Byte)(w:World)(h:Row w g 91 (tabs.map v8)):Gives Tryz.prog 113 #[.pointer (some ⟨g,0,none⟩),v8 a] w (v8 (bxBack a)):= .of_same (back_any g a w h)
theorem natv8 {a:Nat}(h:a<256):Value.int .u8 (a:Int)=v8 (BitVec.ofNat 8 a):=by
 have:(BitVec.ofNat 8 a).toNat=a:=by simp;omega
 rw [v8,this]
theorem tnew_new(gb:Nat)(w0:World)(hb:Row w0 gb 91 (tabs.map v8))(hc:Coef w0):Calls Tryz.prog 27 #[.pointer (some ⟨gb,0,none⟩)] w0 fun e w'=>∃g,e= .returned (.pointer (some ⟨g,0,none⟩))∧w0.heap.size≤g∧Row w' g 78 (tcells gb mixT unmixT)∧Ext w0 w':=by
 have hm:=Own.start w0
 go_enter Tryz.func27,Tryz.ntmps27
 go_wp2_with (first|((with_reducible apply wq_build1 (build_tables gb));exact rfl;exact rfl)|((first|((with_reducible show qBx);first|((with_reducible apply wq_boxN hm);exact rfl;exact rfl)));clear hm;(first|(have hx_:=g1;clear hx_;intro gx_)|intro g1);intro w hm))
 go_loopw [11] (fun i wr=>∃row:Nat,row≤4∧i= .int .i64 row∧Own w0 wr [⟨g1,78,tcells gb (part 1024 (row*256) mixF fun _=>0) (part 1024 (row*256) unmixF fun _=>0)⟩]) (fun i _=>4-(intOf i).toNat)
 case atStart=>exact⟨0,by omega,rfl,by rw [Nat.zero_mul,←zer_start,←zer_start];exact hm⟩
 case round =>
   obtain⟨row,hrow,rfl,hm⟩:=hrel
   by_cases hlt:row<4
   · go_wp2_with fail
     go_loopw [14] (fun j wr=>∃a:Nat,a≤256∧j= .int .i64 a∧Own w0 wr [⟨g1,78,tcells gb (part 1024 (row*256+a) mixF fun _=>0) (part 1024 (row*256+a) unmixF fun _=>0)⟩]) (fun j _=>256-(intOf j).toNat)
     case atStart=>exact⟨0,by omega,rfl,hm⟩
     case round =>
       obtain⟨a,ha,rfl,hm⟩:=hrel
       by_cases hla:a<256
       · have e1:mixF (row*256+a)=brg mixesL row (bxTo (BitVec.ofNat 8 a)) 4:=by rw [mixF,show(row*256+a)/256=row from by omega,show(row*256+a)%256=a from by omega]
         have e2:unmixF (row*256+a)=brg unmixesL row (BitVec.ofNat 8 a) 4:=by rw [unmixF,show(row*256+a)/256=row from by omega,show(row*256+a)%256=a from by omega]
         have E1:=Lib.hid e1
         have E2:=Lib.hid e2
         clear e1 e2
         go_wp2_with fail
         have hbw:=row_ext hb hm.x
         have hcw:=(hc.ext hm.x).1
         have hT:∀wx,Ext wr wx→Gives Tryz.prog 35 #[.pointer (some ⟨gb,0,none⟩), .int .u8 a] wx (v8 (bxTo (BitVec.ofNat 8 a))):=fun wx hwx=>by rw [natv8 hla];exact to_G _ _ wx (row_ext hbw hwx)
         have HT:=Lib.hid hT
         have HM:=Lib.hid hcw
         clear hT hbw hcw
         refine region_at 14 (fun w'=>Ext _ w') 46 (by kernel_rfl) (by kernel_rfl) rfl (fun _ _ h k=>h.trans k) (drew_ext _) ?_
         simp only [tSC,List.take_zero,dSC,List.drop_zero,List.map_cons,List.map_nil]
         repeat (first
             | (apply walk_is rfl rfl rfl
                · (intro wx hwx;(with_reducible apply gq_rdW ((fun wx hwx=>HM.out.ext hwx) wx hwx));infer_instance;exact rfl;(focus (first|rfl|omega|(simp;done)|(simp;omega))))
                · (simp only [Act.put,sIB,sCS,sCZ];rfl))
             | (apply walk_is rfl rfl rfl
                · (intro wx hwx;go_simp;(try go_bits);first|exact gives_same|exact gives_skip|with_reducible exact gives_call (HT.out wx hwx)|with_reducible exact gives_call (brings_any mixesL row _ wx rfl hlt))
                · (simp only [Act.put,sIB,sCS,sCZ];rfl))
             | (apply walk_not rfl rfl rfl
                · (simp only [Act.put,sIB,sCS,sCZ];rfl)))
         intro wz hwz
         simp only [zCC,zNR]
         repeat (first|rw [fin_is]|(rw [fin_cons];intro _ _))
         rw [fin_nil]
         try (replace hm:=hm.ext hwz)
         simp only [Act.put,sIB,sCS,sCZ]
         clear HT HM
         go_wp2_with (first|((((with_reducible show qSt);first|((with_reducible apply wq_s1v (f:=v32) hm);exact rfl;infer_instance;exact rfl;exact rfl;infer_instance;(focus (repeat first|exact .hd|assumption|apply Swap.tl);done);(focus (first|omega|(simp;omega)|(refine ltB ?_;first|omega|(simp;done)|(simp;omega)))))));clear hm;intro w hm))
         rw [show 1+row*256+a=1+(row*256+a)from by omega,tcells_mix _ _ _ (row*256+a) _ _ rfl (by rw [part_length];omega),part_set' (show row*256+a<1024 from by omega) E1.out.symm]at hm
         have hcw:=(hc.ext hm.x).2
         have hB:∀wx,Gives Tryz.prog 38 #[A8 unmixesL, .int .i64 row, .int .u8 a] wx (v32 (brg unmixesL row (BitVec.ofNat 8 a) 4)):=fun wx=>by rw [natv8 hla];exact brings_any unmixesL row _ wx rfl hlt
         have HB:=Lib.hid hB
         have HM:=Lib.hid hcw
         clear hB hcw
         refine region_at 12 (fun w'=>Ext _ w') 46 (by kernel_rfl) (by kernel_rfl) rfl (fun _ _ h k=>h.trans k) (drew_ext _) ?_
         simp only [tSC,List.take_zero,dSC,List.drop_zero,List.map_cons,List.map_nil]
         repeat (first
             | (apply walk_is rfl rfl rfl
                · (intro wx hwx;(with_reducible apply gq_rdW ((fun wx hwx=>HM.out.ext hwx) wx hwx));infer_instance;exact rfl;(focus (first|rfl|omega|(simp;done)|(simp;omega))))
                · (simp only [Act.put,sIB,sCS,sCZ];rfl))
             | (apply walk_is rfl rfl rfl
                · (intro wx hwx;go_simp;(try go_bits);first|exact gives_same|exact gives_skip|with_reducible exact gives_call (HB.out wx))
                · (simp only [Act.put,sIB,sCS,sCZ];rfl))
             | (apply walk_not rfl rfl rfl
                · (simp only [Act.put,sIB,sCS,sCZ];rfl)))
         intro wz hwz
         simp only [zCC,zNR]
         repeat (first|rw [fin_is]|(rw [fin_cons];intro _ _))
         rw [fin_nil]
         try (replace hm:=hm.ext hwz)
         simp only [Act.put,sIB,sCS,sCZ]
         clear HB HM
         go_wp2_with (first|((((with_reducible show qSt);first|((with_reducible apply wq_s1v (f:=v32) hm);exact rfl;infer_instance;exact rfl;exact rfl;infer_instance;(focus (repeat first|exact .hd|assumption|apply Swap.tl);done);(focus (first|omega|(simp;omega)|(refine ltB ?_;first|omega|(simp;done)|(simp;omega)))))));clear hm;intro w hm))
         go_roundw
         case rel=>
           rw [show 1025+row*256+a=1+(part 1024 (row*256+a+1) mixF fun _=>0).length+(row*256+a)from by rw [part_length];omega,tcells_unmix _ _ _ (row*256+a) _ _ rfl,part_set' (show row*256+a<1024 from by omega) E2.out.symm]at hm
           exact⟨a+1,by omega,by go_num,hm⟩
         case measure=>simp [intOf]<;>omega
       · obtain rfl:a=256:=by omega
         go_wp2_with fail
         go_roundw
         case rel=>exact⟨row+1,by omega,by go_num,by rw [show(row+1)*256=row*256+256 from by omega];exact hm⟩
         case measure=>simp [intOf]<;>omega
   · obtain rfl:row=4:=by omega
     go_wp2_with fail
     go_ret
     refine⟨g1,rfl,hm.base (by repeat (first|exact Has.hd|assumption|apply Has.tl)), ?_,hm.x⟩
     have:=hm.row (g:=g1) (by repeat (first|exact Has.hd|assumption|apply Has.tl))
     rwa [show 4*256=1024 from rfl,part_all,part_all]at this
theorem shifted_any(row col:Nat)(hr:row<4)(hc:col<4)(w:World):Calls Tryz.prog 78 #[.int .i64 row, .int .i64 col] w fun e w'=>e= .returned (.int .i64 (shp row col))∧w=w':=by
 obtain⟨q,hq,hq4⟩:∃q:Nat,(col+row)%4=q∧q<4:=⟨_,rfl,Nat.mod_lt _ (by omega)⟩
 have he:((col:Int)+(row:Int))%4=(q:Int):=by omega
 have ht:((col:Int)+(row:Int)).tmod 4=(q:Int):=by rw [Int.tmod_eq_emod_of_nonneg (by omega)];exact he
 have hs:(shp row col:Int)=(row:Int)+4*(q:Int):=by rw [shp,hq];omega
 have Hs:=Lib.hid hs
 clear hs hq
 go_enter Tryz.func78,Tryz.ntmps78
 go_wp2
 go_ret
 exact⟨by rw [Hs.out];rfl,rfl⟩
theorem shifted_G(row col:Nat)(hr:row<4)(hc:col<4)(w:World):Gives Tryz.prog 78 #[.int .i64 row, .int .i64 col] w (.int .i64 (shp row col)):= .of_same (shifted_any row col hr hc w)
theorem both_any(a b:List Byte)(ha:a.length=16)(hb:b.length=16)(w0:World):Gives Tryz.prog 79 #[A8 a,A8 b] w0 (A8 (bothL a b)):=by
 unfold Gives
 have hm:=Own.start w0
 have ha1:=Nat.le_of_eq ha
 have ha2:=Nat.le_of_eq ha.symm
 have hb1:=Nat.le_of_eq hb
 have hb2:=Nat.le_of_eq hb.symm
 have Ha:=Lib.hid ha
 clear ha hb
 go_enter Tryz.func79,Tryz.ntmps79
 go_wp2_with (first|((first|((with_reducible show qAl);first|((with_reducible apply wq_new hm);exact rfl;infer_instance))|((with_reducible show qBx);first|((with_reducible apply wq_boxN hm);exact rfl;exact rfl)));clear hm;(first|(have hx_:=g1;clear hx_;(first|(have hx_:=g2;clear hx_;(first|(have hx_:=g3;clear hx_;intro gx_)|intro g3))|intro g2))|intro g1);intro w hm))
 rw [part_start (f:=fun i=>nth a i^^^nth b i) Ha.out]at hm
 go_loopw [6] (fun i wr=>∃k:Nat,k≤16∧i= .int .i64 k∧Own w0 wr [⟨g3,68,(zer 16).map v8⟩,⟨g2,68,b.map v8⟩,⟨g1,68,(part 16 k (fun i=>nth a i^^^nth b i) (nth a)).map v8⟩]) (fun i _=>16-(intOf i).toNat)
 case atStart=>exact⟨0,by omega,rfl,hm⟩
 case round =>
   obtain⟨k,hk,rfl,hm⟩:=hrel
   by_cases hlt:k<16
   · have e1:nth (part 16 k (fun i=>nth a i^^^nth b i) (nth a)) k=nth a k:=nth_part_ge hlt (Nat.le_refl _)
     go_wp2_with fail
     refine region_at 8 (fun w'=>Ext _ w') 19 (by kernel_rfl) (by kernel_rfl) rfl (fun _ _ h k=>h.trans k) (drew_ext _) ?_
     simp only [tSC,List.take_zero,dSC,List.drop_zero,List.map_cons,List.map_nil]
     repeat (first
         | (apply walk_is rfl rfl rfl
            · (intro wx hwx;first|((with_reducible show gives _ _ _ (Sem.run _ (execOp _ (Oper.mk _ (Op.load _ _) _ _ _ _)) _));first|((with_reducible apply gq_ldv (hm.ext hwx));infer_instance;exact rfl;(focus (repeat first|exact .hd|assumption|apply Has.tl);done);(focus (first|omega|(simp;omega)|(refine ltB ?_;first|omega|(simp;done)|(simp;omega))))))|(go_simp;(try go_bits);first|exact gives_same|exact gives_skip))
            · (simp only [Act.put,sIB,sCS,sCZ];rfl))
         | (apply walk_not rfl rfl rfl
            · (simp only [Act.put,sIB,sCS,sCZ];rfl)))
     intro wz hwz
     simp only [zCC,zNR]
     repeat (first|rw [fin_is]|(rw [fin_cons];intro _ _))
     rw [fin_nil]
     try (replace hm:=hm.ext hwz)
     simp only [Act.put,sIB,sCS,sCZ]
     go_wp2_with (first|((((with_reducible show qSt);first|((with_reducible apply wq_stv hm);exact rfl;infer_instance;exact rfl;(focus (repeat first|exact .hd|assumption|apply Swap.tl);done);infer_instance;exact rfl;(focus (first|omega|(simp;omega)|(refine ltB ?_;first|omega|(simp;done)|(simp;omega)))))));clear hm;intro w hm))
     go_roundw
     case rel=>
       rw [part_set' hlt rfl]at hm
       exact⟨k+1,by omega,by go_num,hm⟩
     case measure=>simp [intOf]<;>omega
   · obtain rfl:k=16:=by omega
     rw [part_all]at hm
     go_wp2_with (first|((with_reducible show qLd);first|((with_reducible apply wq_ldW hm);exact rfl;infer_instance;exact rfl;(focus (repeat first|exact .hd|assumption|apply Has.tl);done);(focus (first|rfl|omega|(simp;done)|(simp;omega)))))|((((with_reducible show qSt);first|((with_reducible apply wq_stW hm);exact rfl;infer_instance;exact rfl;exact rfl;(focus (repeat first|exact .hd|assumption|apply Swap.tl);done);(focus (first|rfl|omega|(simp;done)|(simp;omega)));(focus (first|rfl|omega|(simp;done)|(simp;omega)));(focus (first|exact one_map _|(simp [one8,one32,one64];done))))));clear hm;intro w hm))
     refine rtO hm rfl rfl (hR:=⟨rfl,hm.x⟩)
theorem tcmix(gb row:Nat)(x:Byte)(h:row<4):(tcells gb mixT unmixT)[1+row*256+x.toNat]? =some (v32 (brg mixesL row (bxTo x) 4)):=by
 have:=x.isLt
 rw [tcells_mix_at gb mixT unmixT (row*256+x.toNat) _ (by omega) (by rw [mixT_length];omega),mixT_nth row x h]
theorem tcunmix(gb row:Nat)(x:Byte)(h:row<4):(tcells gb mixT unmixT)[1025+row*256+x.toNat]? =some (v32 (brg unmixesL row x 4)):=by
 have:=x.isLt
 rw [tcells_unmix_at gb mixT unmixT (row*256+x.toNat) _ (by rw [mixT_length];omega) (by rw [unmixT_length];omega),unmixT_nth row x h]
def lastF(b:List Byte)(i:Nat):Byte:=bxTo (nth b (shp (i%4) (i/4)))
theorem last_both(b key:List Byte):bothL (tab 16 (lastF b)) key=last b key:=tab_ext fun i hi=>by rw [nth_tab hi];rfl
theorem last_any(g gb:Nat)(b key:List Byte)(hb:b.length=16)(hk:key.length=16)(w0:World)(h1:Row w0 g 78 (tcells gb mixT unmixT))(h2:Row w0 gb 91 (tabs.map v8)):Gives Tryz.prog 67 #[.pointer (some ⟨g,0,none⟩),A8 b,A8 key] w0 (A8 (last b key)):=by
 unfold Gives
 have hm:=Own.start w0
 have hb1:=Nat.le_of_eq hb
 have hb2:=Nat.le_of_eq hb.symm
 have hk1:=Nat.le_of_eq hk
 have hk2:=Nat.le_of_eq hk.symm
 have HK:=Lib.hid hk
 have H1:=Lib.hid h1
 have H2:=Lib.hid h2
 clear hb hk h1 h2
 go_enter Tryz.func67,Tryz.ntmps67
 go_wp2_with (first|((first|((with_reducible show qAl);first|((with_reducible apply wq_new hm);exact rfl;infer_instance))|((with_reducible show qBx);first|((with_reducible apply wq_boxN hm);exact rfl;exact rfl)));clear hm;(first|(have hx_:=g1;clear hx_;(first|(have hx_:=g2;clear hx_;(first|(have hx_:=g3;clear hx_;(first|(have hx_:=g4;clear hx_;intro gx_)|intro g4))|intro g3))|intro g2))|intro g1);intro w hm))
 go_loopw [13] (fun i wr=>∃col:Nat,col≤4∧i= .int .i64 col∧Own w0 wr [⟨g4,68,(part 16 (4*col) (lastF b) fun _=>0).map v8⟩,⟨g3,68,(zer 16).map v8⟩,⟨g2,68,key.map v8⟩,⟨g1,68,b.map v8⟩]) (fun i _=>4-(intOf i).toNat)
 case atStart=>exact⟨0,by omega,rfl,by rw [←zer_start];exact hm⟩
 case round =>
   obtain⟨col,hcol,rfl,hm⟩:=hrel
   by_cases hlt:col<4
   · have hd : decide ((col:Int)<4)=true:=by simp;omega
     go_wp2_with fail
     go_loopw [16] (fun j wr=>∃row:Nat,row≤4∧j= .int .i64 row∧Own w0 wr [⟨g4,68,(part 16 (4*col+row) (lastF b) fun _=>0).map v8⟩,⟨g3,68,(zer 16).map v8⟩,⟨g2,68,key.map v8⟩,⟨g1,68,b.map v8⟩]) (fun j _=>4-(intOf j).toNat)
     case atStart=>exact⟨0,by omega,rfl,hm⟩
     case round =>
       obtain⟨row,hrow,rfl,hm⟩:=hrel
       by_cases hlr:row<4
       · have hs:=shp_lt row col hlr
         have hs2:(shp row col:Int)<16:=by omega
         have hi2:(row:Int)+4*(col:Int)<16:=by omega
         have hi0:(0:Int)≤(row:Int)+4*(col:Int):=by omega
         have hin:((row:Int)+4*(col:Int)).toNat=row+4*col:=by omega
         have e1:lastF b (4*col+row)=bxTo (nth b (shp row col)):=by rw [lastF,show(4*col+row)%4=row from by omega,show(4*col+row)/4=col from by omega]
         have E1:=Lib.hid e1
         have HR:=Lib.hid (row_ext H1.out hm.x)
         have HB:=Lib.hid (row_ext H2.out hm.x)
         clear e1
         go_wp2_with fail
         refine region_at 15 (fun w'=>Ext _ w') 39 (by kernel_rfl) (by kernel_rfl) rfl (fun _ _ h k=>h.trans k) (drew_ext _) ?_
         simp only [tSC,List.take_zero,dSC,List.drop_zero,List.map_cons,List.map_nil]
         repeat (first
             | (apply walk_is rfl rfl rfl
                · (intro wx hwx;(with_reducible apply gq_row1 ((fun wx hwx=>row_ext HR.out hwx) wx hwx));infer_instance;exact rfl;(exact tcells_ptr _ _ _))
                · (simp only [Act.put,sIB,sCS,sCZ];rfl))
             | (apply walk_is rfl rfl rfl
                · (intro wx hwx;first|((with_reducible show gives _ _ _ (Sem.run _ (execOp _ (Oper.mk _ (Op.load _ _) _ _ _ _)) _));first|((with_reducible apply gq_ldv (hm.ext hwx));infer_instance;exact rfl;(focus (repeat first|exact .hd|assumption|apply Has.tl);done);(focus (first|omega|(simp;omega)|(refine ltB ?_;first|omega|(simp;done)|(simp;omega))))))|(go_simp;(try go_bits);first|exact gives_same|exact gives_skip|with_reducible exact gives_call (shifted_G row col hlr hlt wx)|with_reducible exact gives_call (to_G gb _ wx (row_ext HB.out hwx))))
                · (simp only [Act.put,sIB,sCS,sCZ];rfl))
             | (apply walk_not rfl rfl rfl
                · (simp only [Act.put,sIB,sCS,sCZ];rfl)))
         intro wz hwz
         simp only [zCC,zNR]
         repeat (first|rw [fin_is]|(rw [fin_cons];intro _ _))
         rw [fin_nil]
         try (replace hm:=hm.ext hwz)
         simp only [Act.put,sIB,sCS,sCZ]
         go_wp2_with (first|((((with_reducible show qSt);first|((with_reducible apply wq_stv hm);exact rfl;infer_instance;exact rfl;(focus (repeat first|exact .hd|assumption|apply Swap.tl);done);infer_instance;exact rfl;(focus (first|omega|(simp;omega)|(refine ltB ?_;first|omega|(simp;done)|(simp;omega)))))));clear hm;intro w hm))
         go_roundw
         case rel=>
           rw [show row+4*col=4*col+row from by omega,part_set' (by omega) E1.out.symm]at hm
           exact⟨row+1,by omega,by go_num,hm⟩
         case measure=>simp [intOf]<;>omega
       · obtain rfl:row=4:=by omega
         go_wp2_with fail
         go_roundw
         case rel=>exact⟨col+1,by omega,by go_num,by rw [show 4*(col+1)=4*col+4 from by omega];exact hm⟩
         case measure=>simp [intOf]<;>omega
   · obtain rfl:col=4:=by omega
     rw [show 4*4=16 from rfl,part_all]at hm
     go_wp2_with (first|(go_at_call 79;(with_reducible refine(both_any (tab 16 (lastF b)) key tab_length HK.out _).mono ?_);rintro e_ w ⟨rfl,hx_⟩;replace hm:=hm.ext hx_;clear hx_)|((with_reducible show qLd);first|((with_reducible apply wq_ldW hm);exact rfl;infer_instance;exact rfl;(focus (repeat first|exact .hd|assumption|apply Has.tl);done);(focus (first|rfl|omega|(simp;done)|(simp;omega)))))|((((with_reducible show qSt);first|((with_reducible apply wq_stW hm);exact rfl;infer_instance;exact rfl;exact rfl;(focus (repeat first|exact .hd|assumption|apply Swap.tl);done);(focus (first|rfl|omega|(simp;done)|(simp;omega)));(focus (first|rfl|omega|(simp;done)|(simp;omega)));(focus (first|exact one_map _|(simp [one8,one32,one64];done))))));clear hm;intro w hm))
     rw [last_both]at hm
     refine rtO hm rfl rfl (hR:=⟨rfl,hm.x⟩)
theorem sw_shl(x:Byte)(s:Nat)(h:s≤24):((x.setWidth 64)<<<s).setWidth 32=x.setWidth 32<<<s:=by
 apply BitVec.eq_of_getLsbD_eq;intro i hi
 simp [hi,show i<64 by omega]
theorem word_colW(b key:List Byte)(col:Nat)(hk:key.length=16)(hc:col<4):(num key (4*(col:Int)) 4).setWidth 32=colW b key col 0:=by
 have hg:∀k:Nat,k<4→gb key (4*(col:Int)+(k:Int))=nth key (4*col+k):=by
   intro k h
   unfold gb
   rw [if_pos (by omega),show(4*(col:Int)+(k:Int)).toNat=4*col+k from by omega];rfl
 have h0:=hg 0 (by omega)
 have h1:=hg 1 (by omega)
 have h2:=hg 2 (by omega)
 have h3:=hg 3 (by omega)
 simp only [num,h0,h1,h2,h3,colW,BitVec.setWidth_or,Nat.mul_zero,Nat.add_zero]
 rw [sw_shl _ 0 (by omega),sw_shl _ (8*1) (by omega),sw_shl _ (8*2) (by omega),sw_shl _ (8*3) (by omega)]
 simp
theorem word_G(b key:List Byte)(p:Option Addr)(c col:Nat)(hk:key.length=16)(hc:col<4)(w:World)(hr:RdB w p key):Gives Tryz.prog 60 #[.slice p 16 c, .int .i64 (4*(col:Int))] w (v32 (colW b key col 0)):=by
 have h:=word_any key p c (4*(col:Int)) w hr (by omega) (by omega) (by omega)
 rwa [word_colW b key col hk hc,hk]at h
theorem putL_byteW(n:BitVec 32)(f:Nat→Byte)(k:Nat)(h:∀r,r<4→byteW n r=f (k+r)):putL (n.setWidth 64) 4=[f k,f (k+1),f (k+2),f (k+3)]:=by
 have e:putL (n.setWidth 64) 4=[byteW n 0,byteW n 1,byteW n 2,byteW n 3]:=by
   show [((n.setWidth 64)>>>(8*0)).setWidth 8,((n.setWidth 64)>>>(8*1)).setWidth 8,((n.setWidth 64)>>>(8*2)).setWidth 8,((n.setWidth 64)>>>(8*3)).setWidth 8]=_
   rw [put32_byte,put32_byte,put32_byte,put32_byte];rfl
 rw [e,h 0 (by omega),h 1 (by omega),h 2 (by omega),h 3 (by omega)];rfl
theorem over_col(n:BitVec 32)(f:Nat→Byte)(col m:Nat)(hc:col<4)(hm:4≤m)(h:∀r,r<4→byteW n r=f (4*col+r)):over (part 16 (4*col) f fun _=>0) (4*col) ((putL (n.setWidth 64) 4).take m)=part 16 (4*col+4) f fun _=>0:=by
 rw [putL_byteW n f (4*col) h,List.take_of_length_le (by simpa using hm)]
 rcases (show col=0∨col=1∨col=2∨col=3 by omega)with rfl|rfl|rfl|rfl<;>rfl
theorem rndB_col(b key:List Byte)(col:Nat)(r:Nat)(h:r<4):byteW (colW b key col 4) r=rndB b key (4*col+r):=by
 rw [rndB,show(4*col+r)/4=col from by omega,show(4*col+r)%4=r from by omega]
attribute [local simp] putL_length
theorem round_any(g gb:Nat)(b key:List Byte)(hb:b.length=16)(hk:key.length=16)(w0:World)(h1:Row w0 g 78 (tcells gb mixT unmixT)):Gives Tryz.prog 77 #[.pointer (some ⟨g,0,none⟩),A8 b,A8 key] w0 (A8 (rnd b key)):=by
 unfold Gives
 have hm:=Own.start w0
 have hb1:=Nat.le_of_eq hb
 have hb2:=Nat.le_of_eq hb.symm
 have hk1:=Nat.le_of_eq hk
 have hk2:=Nat.le_of_eq hk.symm
 have HK:=Lib.hid hk
 have H1:=Lib.hid h1
 clear hb hk h1
 go_enter Tryz.func77,Tryz.ntmps77
 go_wp2_with (first|((first|((with_reducible show qAl);first|((with_reducible apply wq_new hm);exact rfl;infer_instance))|((with_reducible show qBx);first|((with_reducible apply wq_boxN hm);exact rfl;exact rfl)));clear hm;(first|(have hx_:=g1;clear hx_;(first|(have hx_:=g2;clear hx_;(first|(have hx_:=g3;clear hx_;(first|(have hx_:=g4;clear hx_;intro gx_)|intro g4))|intro g3))|intro g2))|intro g1);intro w hm))
 go_loopw [15] (fun i wr=>∃col:Nat,col≤4∧i= .int .i64 col∧Own w0 wr [⟨g4,68,(part 16 (4*col) (rndB b key) fun _=>0).map v8⟩,⟨g3,68,(zer 16).map v8⟩,⟨g2,68,key.map v8⟩,⟨g1,68,b.map v8⟩]) (fun i _=>4-(intOf i).toNat)
 case atStart=>exact⟨0,by omega,rfl,by rw [←zer_start];exact hm⟩
 case round =>
   obtain⟨col,hcol,rfl,hm⟩:=hrel
   by_cases hlt:col<4
   · have hd : decide ((col:Int)<4)=true:=by simp;omega
     go_wp2_with (first|(go_at_call 60;(with_reducible refine(word_G b key _ _ col HK.out hlt _ (hm.rdB (by repeat (first|exact Has.hd|assumption|apply Has.tl)))).mono ?_);rintro e_ w ⟨rfl,hx_⟩;replace hm:=hm.ext hx_;clear hx_))
     go_loopw [9,22] (fun n j wr=>∃row:Nat,row≤4∧j= .int .i64 row∧n=v32 (colW b key col row)∧Own w0 wr [⟨g4,68,(part 16 (4*col) (rndB b key) fun _=>0).map v8⟩,⟨g3,68,(zer 16).map v8⟩,⟨g2,68,key.map v8⟩,⟨g1,68,b.map v8⟩]) (fun _ j _=>4-(intOf j).toNat)
     case atStart=>exact⟨0,by omega,rfl,rfl,hm⟩
     case round =>
       obtain⟨row,hrow,rfl,rfl,hm⟩:=hrel
       by_cases hlr:row<4
       · have hs:=shp_lt row col hlr
         have hs2:(shp row col:Int)<16:=by omega
         have hx8:∀x:Byte,(x.toNat:Int)<256:=fun x=>by have:=x.isLt;omega
         have hx9:=hx8 (nth b (shp row col))
         clear hx8
         have e1:colW b key col (row+1)=colW b key col row^^^brg mixesL row (bxTo (nth b (shp row col))) 4:=rfl
         have E1:=Lib.hid e1
         have HR:=Lib.hid (row_ext H1.out hm.x)
         clear e1
         go_wp2_with fail
         refine region_at 14 (fun w'=>Ext _ w') 49 (by kernel_rfl) (by kernel_rfl) rfl (fun _ _ h k=>h.trans k) (drew_ext _) ?_
         simp only [tSC,List.take_zero,dSC,List.drop_zero,List.map_cons,List.map_nil]
         repeat (first
             | (apply walk_is rfl rfl rfl
                · (intro wx hwx;(with_reducible apply gq_row1 ((fun wx hwx=>row_ext HR.out hwx) wx hwx));infer_instance;exact rfl;(exact tcmix _ _ _ hlr))
                · (simp only [Act.put,sIB,sCS,sCZ];rfl))
             | (apply walk_is rfl rfl rfl
                · (intro wx hwx;first|((with_reducible show gives _ _ _ (Sem.run _ (execOp _ (Oper.mk _ (Op.load _ _) _ _ _ _)) _));first|((with_reducible apply gq_ldv (hm.ext hwx));infer_instance;exact rfl;(focus (repeat first|exact .hd|assumption|apply Has.tl);done);(focus (first|omega|(simp;omega)|(refine ltB ?_;first|omega|(simp;done)|(simp;omega))))))|(go_simp;(try go_bits);first|exact gives_same|exact gives_skip|with_reducible exact gives_call (shifted_G row col hlr hlt wx)))
                · (simp only [Act.put,sIB,sCS,sCZ];rfl))
             | (apply walk_not rfl rfl rfl
                · (simp only [Act.put,sIB,sCS,sCZ];rfl)))
         intro wz hwz
         simp only [zCC,zNR]
         repeat (first|rw [fin_is]|(rw [fin_cons];intro _ _))
         rw [fin_nil]
         try (replace hm:=hm.ext hwz)
         simp only [Act.put,sIB,sCS,sCZ]
         go_wp2_with fail
         go_roundw
         case rel=>exact⟨row+1,by omega,by go_num,by rw [E1.out],hm⟩
         case measure=>simp [intOf]<;>omega
       · obtain rfl:row=4:=by omega
         go_wp2_with (first|(go_at_call 59;(with_reducible refine(putword_any _ _).mono ?_);rintro e_ w ⟨rfl,hx_⟩;replace hm:=hm.ext hx_;clear hx_)|((((with_reducible show qSt);first|((with_reducible apply wq_stW hm);exact rfl;infer_instance;exact rfl;exact rfl;(focus (repeat first|exact .hd|assumption|apply Swap.tl);done);(focus (first|rfl|omega|(simp;done)|(simp;omega)));(focus (first|rfl|omega|(simp;done)|(simp;omega)));(focus (first|exact one_map _|(simp [one8,one32,one64];done))))));clear hm;intro w hm)|((first|((with_reducible show qAl);first|((with_reducible apply wq_new hm);exact rfl;infer_instance)));clear hm;(first|(have hx_:=g1;clear hx_;(first|(have hx_:=g2;clear hx_;(first|(have hx_:=g3;clear hx_;(first|(have hx_:=g4;clear hx_;intro gx_)|intro g4))|intro g3))|intro g2))|intro g1);intro w hm))
         have hl0:(0:Int)≤4*(col:Int):=by omega
         have hl1:4*(col:Int)≤16:=by omega
         have hl2:(4*(col:Int)).toNat=4*col:=by omega
         have hl3:16≠4*col:=by omega
         have hl4:¬16=4*col:=hl3
         refine region_at 4 (fun w'=>Ext _ w') 49 (by kernel_rfl) (by kernel_rfl) rfl (fun _ _ h k=>h.trans k) (drew_ext _) ?_
         simp only [tSC,List.take_zero,dSC,List.drop_zero,List.map_cons,List.map_nil]
         repeat (first
             | (apply walk_is rfl rfl rfl
                · (intro wx hwx;go_simp;(try go_bits);first|exact gives_same|exact gives_skip)
                · (simp only [Act.put,sIB,sCS,sCZ];rfl))
             | (apply walk_not rfl rfl rfl
                · (simp only [Act.put,sIB,sCS,sCZ];rfl)))
         intro wz hwz
         simp only [zCC,zNR]
         repeat (first|rw [fin_is]|(rw [fin_cons];intro _ _))
         rw [fin_nil]
         try (replace hm:=hm.ext hwz)
         simp only [Act.put,sIB,sCS,sCZ]
         refine wpl_cp8 hm rfl rfl rfl rfl rfl (by kernel_rfl) (by repeat (first|exact Swap.hd|assumption|apply Swap.tl)) (hm.rdB (by repeat (first|exact Has.hd|assumption|apply Has.tl))) (putL_length _ _).symm (over_col _ (rndB b key) col _ hlt (by omega) (rndB_col b key col)) (by simp;omega) ?_
         clear hm
         intro w hm
         go_wp2_with fail
         go_roundw
         case rel=>exact⟨col+1,by omega,by go_num,by rw [show 4*(col+1)=4*col+4 from by omega];exact hm.drop⟩
         case measure=>simp [intOf]<;>omega
   · obtain rfl:col=4:=by omega
     rw [show 4*4=16 from rfl,part_all]at hm
     go_wp2_with (first|((with_reducible show qLd);first|((with_reducible apply wq_ldW hm);exact rfl;infer_instance;exact rfl;(focus (repeat first|exact .hd|assumption|apply Has.tl);done);(focus (first|rfl|omega|(simp;done)|(simp;omega)))))|((((with_reducible show qSt);first|((with_reducible apply wq_stW hm);exact rfl;infer_instance;exact rfl;exact rfl;(focus (repeat first|exact .hd|assumption|apply Swap.tl);done);(focus (first|rfl|omega|(simp;done)|(simp;omega)));(focus (first|rfl|omega|(simp;done)|(simp;omega)));(focus (first|exact one_map _|(simp [one8,one32,one64];done))))));clear hm;intro w hm))
     refine rtO hm rfl rfl (hR:=⟨rfl,hm.x⟩)
end Go.Proofs.YtllnjbiebdkmbaaGreatDoor
namespace Go.Proofs.YtllnjbiebdkmbaaGreatDoor
open Go Go.RowKit
set_option maxRecDepth 100000
def cnt16:List Byte:=[0#8,1#8,2#8,3#8,4#8,5#8,6#8,7#8,8#8,9#8,10#8,11#8,12#8,13#8,14#8,15#8]
attribute [local simp] rnd_length last_length
end Go.Proofs.YtllnjbiebdkmbaaGreatDoor
namespace Go.Proofs.YtllnjbiebdkmbaaGreatDoor
open Go Go.RowKit
set_option maxRecDepth 100000
def boxTab:List Byte:=tab 256 fun a=>sbox (BitVec.ofNat 8 a)
def subL(t b:List Byte):List Byte:=tab 16 fun i=>nth t (nth b i).toNat
def shiftF(b:List Byte)(i:Nat):Byte:=nth b (shp (i%4) (i/4))
def shiftL(b:List Byte):List Byte:=tab 16 (shiftF b)
def mixB(by_ b:List Byte)(i:Nat):Nat→Byte
 |0=>0#8
 |k+1=>mixB by_ b i k^^^tms (nth by_ ((k+4-i%4)%4)) (nth b (4*(i/4)+k))
def mixL(by_ b:List Byte):List Byte:=tab 16 fun i=>mixB by_ b i 4
theorem take256_length:(tabs.take 256).length=256:=by simp [tabs_length]
attribute [local simp] take256_length
theorem gq_build {P:Program}{dst:Option Tmp}{ty:TypeId}{pos:String}{aft:Array Edge}{gd:Option (Nat×Bool)}{a:Act}{w:World}{T:TypeId}{v:Value}{parts:Array (Nat×Operand)}{vs:Array (Nat×Value)}(hb:∀w,(Instr.build T vs).run P w= .ok v w)(hp:parts.map (fun p=>(p.1,a.eval p.2))=vs):gives P w (Is v) ((execOp a.eval (Oper.mk dst (.build T parts) ty pos aft gd)).run P w):=by
 subst hp
 have h:=hb w
 unfold execOp
 simp only [Sem.run_bind,h,Result.andThen_ok,Sem.run_pure]
 exact gives_same
end Go.Proofs.YtllnjbiebdkmbaaGreatDoor
namespace Go.Proofs.YtllnjbiebdkmbaaGreatDoor
open Go Go.RowKit
set_option maxRecDepth 100000
def makeT:Nat→List Byte
 |0=>boxTab++zer 256
 |k+1=>setN (makeT k) (256+(nth (makeT k) k).toNat) (BitVec.ofNat 8 k)
theorem boxTab_length:boxTab.length=256:=tab_length
theorem makeT_length(k:Nat):(makeT k).length=512:=by
 induction k with
 |zero=>rw [makeT,List.length_append,boxTab_length,zer_length]
 |succ k ih=>rw [makeT,setN_length,ih]
attribute [local simp] makeT_length
end Go.Proofs.YtllnjbiebdkmbaaGreatDoor
namespace Go.Proofs.YtllnjbiebdkmbaaGreatDoor
open Go Go.RowKit
set_option maxRecDepth 100000
theorem trounds_any(g gb:Nat)(b:List Byte)(ks:List (List Byte))(p:Option Addr)(c:Nat)(hb:b.length=16)(w0:World)(hk:RdK w0 p 16 ks)(hc:ks.length≤c)(hcm:ks.length≤70368744177664)(h1:Row w0 g 78 (tcells gb mixT unmixT)):Gives Tryz.prog 65 #[.pointer (some ⟨g,0,none⟩),A8 b, .slice p ks.length c] w0 (A8 (rnds b ks)):=by
 unfold Gives
 have hm:=Own.start w0
 have hb1:=Nat.le_of_eq hb
 have hb2:=Nat.le_of_eq hb.symm
 have H1:=Lib.hid h1
 have HK:=Lib.hid hk
 have HB:=Lib.hid hb
 clear hb h1 hk
 go_enter Tryz.func65,Tryz.ntmps65
 go_wp2_with (first|((first|((with_reducible show qAl);first|((with_reducible apply wq_new hm);exact rfl;infer_instance))|((with_reducible show qBx);first|((with_reducible apply wq_boxN hm);exact rfl;exact rfl)));clear hm;(first|(have hx_:=g1;clear hx_;(first|(have hx_:=g2;clear hx_;intro gx_)|intro g2))|intro g1);intro w hm))
 go_loopw [14] (fun i wr=>∃k:Nat,k≤ks.length∧i= .int .i64 k∧Own w0 wr [⟨g2,68,(zer 16).map v8⟩,⟨g1,68,(rnds b (ks.take k)).map v8⟩]) (fun i _=>ks.length-(intOf i).toNat)
 case atStart=>exact⟨0,by omega,rfl,hm⟩
 case round=>
   obtain⟨k,hk,rfl,hm⟩:=hrel
   have hB:=rnds_length (ks.take k) b HB.out
   by_cases hlt:k<ks.length
   · obtain⟨a,rfl⟩:=HK.out.addr (by omega) (by omega)
     obtain⟨hK,hKl⟩:=HK.out.at (by omega) k hlt
     have hS:=rnds_take b ks k hlt
     simp only [Option.getD_some]at hK
     generalize rnds b (ks.take k)=B at*
     generalize ks.getD k []=K at*
     have HS:=Lib.hid hS
     have HK2:=Lib.hid hK
     have CR:=Lib.hid fun wx h=>round_any g gb B K hB hKl wx h
     have hl1:(rnd B K).length=16:=rnd_length _ _
     generalize rnd B K=C at*
     clear hK
     go_wp2_with (first|(go_at_call 77;(with_reducible refine(CR.out _ (row_ext H1.out hm.x)).mono ?_);rintro e_ w ⟨rfl,hx_⟩;replace hm:=hm.ext hx_;clear hx_)|((with_reducible apply wq_rdW (HK2.out.ext hm.x));exact rfl;infer_instance;exact rfl;exact hKl)|((with_reducible show qLd);first|((with_reducible apply wq_ldW hm);exact rfl;infer_instance;exact rfl;(focus (repeat first|exact .hd|assumption|apply Has.tl);done);(focus (first|rfl|omega|(simp;done)|(simp;omega)))))|((((with_reducible show qSt);first|((with_reducible apply wq_stW hm);exact rfl;infer_instance;exact rfl;exact rfl;(focus (repeat first|exact .hd|assumption|apply Swap.tl);done);(focus (first|rfl|omega|(simp;done)|(simp;omega)));(focus (first|rfl|omega|(simp;done)|(simp;omega)));(focus (first|exact one_map _|(simp [one8,one32,one64];done))))));clear hm;intro w hm)|((first|((with_reducible show qAl);first|((with_reducible apply wq_new hm);exact rfl;infer_instance)));clear hm;(first|(have hx_:=g1;clear hx_;(first|(have hx_:=g2;clear hx_;intro gx_)|intro g2))|intro g1);intro w hm))
     go_roundw
     case rel=>exact⟨k+1,by omega,by go_num,by rw [HS.out];exact hm.drop⟩
     case measure=>simp [intOf]<;>omega
   · obtain rfl:k=ks.length:=by omega
     rw [List.take_length]at hm hB
     go_wp2_with (first|((with_reducible show qLd);first|((with_reducible apply wq_ldW hm);exact rfl;infer_instance;exact rfl;(focus (repeat first|exact .hd|assumption|apply Has.tl);done);(focus (first|rfl|omega|(simp;done)|(simp;omega)))))|((((with_reducible show qSt);first|((with_reducible apply wq_stW hm);exact rfl;infer_instance;exact rfl;exact rfl;(focus (repeat first|exact .hd|assumption|apply Swap.tl);done);(focus (first|rfl|omega|(simp;done)|(simp;omega)));(focus (first|rfl|omega|(simp;done)|(simp;omega)));(focus (first|exact one_map _|(simp [one8,one32,one64];done))))));clear hm;intro w hm))
     refine rtO hm rfl rfl (hR:=⟨rfl,hm.x⟩)
theorem tbox_any(g gb:Nat)(a:Byte)(w:World)(h1:Row w g 78 (tcells gb mixT unmixT))(h2:Row w gb 91 (tabs.map v8)):Calls Tryz.prog 22 #[.pointer (some ⟨g,0,none⟩),v8 a] w fun e w'=>e= .returned (v8 (bxTo a))∧w=w':=by
 have hc:w.cell? ⟨g,0,none⟩=some (.pointer (some ⟨gb,0,none⟩)):=by rw [row_cell h1 0];exact tcells_ptr _ _ _
 have H2:=Lib.hid h2
 clear h1 h2
 go_enter Tryz.func22,Tryz.ntmps22
 go_wp2_with fail
 refine(to_any gb a w H2.out).mono ?_
 rintro e w' ⟨rfl,rfl⟩
 go_wp2
 go_ret
 exact⟨rfl,rfl⟩
def shiftBL(b:List Byte):List Byte:=tab 16 fun i=>nth b (ush i)
end Go.Proofs.YtllnjbiebdkmbaaGreatDoor
