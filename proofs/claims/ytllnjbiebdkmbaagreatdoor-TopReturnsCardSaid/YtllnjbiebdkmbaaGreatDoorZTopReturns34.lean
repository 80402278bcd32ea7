/-
  Texts of the program, walked, and plain ones. Conditions: those written in each theorem.
-/
import Derived.Test.YtllnjbiebdkmbaaGreatDoorZTopReturns0
import Derived.Test.YtllnjbiebdkmbaaGreatDoorZTopReturns32
import Derived.Test.YtllnjbiebdkmbaaGreatDoorZTopReturns33
import Derived.Test.YtllnjbiebdkmbaaGreatDoorZTopReturns10
import Derived.ProofKit
import Derived.LaidMore
import Derived.OpenShut
import Derived.Stop.Joined
import Derived.Test.YtllnjbiebdkmbaaGreatDoorRows
import Derived.Test.YtllnjbiebdkmbaaGreatDoorZTopReturns7
set_option linter.unusedSimpArgs false
set_option linter.unusedVariables false
set_option maxHeartbeats 16000000
namespace Go.Proofs.YtllnjbiebdkmbaaGreatDoor
open Go Go.RowKit
set_option maxRecDepth 100000
def MayS(al:Int)(key:List Byte):Slot:=fun v _=>∃b:Bool,v= .bool b∧(b=true→SchOk al key)
theorem MayS.stable(al:Int)(key:List Byte):Stable (MayS al key):=fun _ _ _ h _=>h
def NayS(al:Int)(key:List Byte):Slot:=fun v _=>∃b:Bool,v= .bool (!b)∧(b=true→SchOk al key)
theorem NayS.stable(al:Int)(key:List Byte):Stable (NayS al key):=fun _ _ _ h _=>h
theorem lmay_S(al:Int)(key:List Byte)(p:Option Addr)(c:Nat)(w0:World):GivesR Tryz.prog 4 #[.agg #[.int .i64 al, .slice p key.length c]] w0 (MayS al key):=
 (lmay_any al key p c w0).mono fun _ _ ⟨b,h1,h2,h3⟩=>⟨_,h1,⟨b,rfl,h2⟩,h3⟩
theorem perm3r(a s v:Blk)(R:List Blk):(a::s::v::R).Perm (s::v::a::R):=(List.perm_middle (l₁ :=[s,v])).symm
theorem build_lockS(al:Int)(p:Option Addr)(n c:Nat)(w:World):(Instr.build 24 #[(0, .int .i64 al),(1, .slice p n c)]).run Tryz.prog w= .ok (.agg #[.int .i64 al, .slice p n c]) w:=by kernel_rfl
theorem topret_any (al : Int)(key:List Byte)(p:Option Addr)(c:Nat)(hc:key.length≤c)(ws:List (List Byte))(q:Option Addr)(d:Nat)(hd:ws.length≤d)(keys:List (List Byte))(r:Option Addr)(e:Nat)(he:keys.length≤e)(w0:World)(hcf:Coef w0)(hcb:CoefB w0)(hr:RdB w0 p key)(hs:RdK w0 q 21 ws)(hks:RdR w0 r keys):
   Gives Tryz.prog 3 #[.agg #[.int .i64 al, .slice p key.length c], .slice q ws.length d, .slice r keys.length e] w0 (.bool true):=by
 unfold Gives
 have hm:=Own.start w0
 have MY:=Lib.hid fun w=>lmay_any al key p c w
 have AW:=Lib.hid fun w (hx:Ext w0 w)=>awakeT w (hcf.ext hx)
 have FO:=Lib.hid fun (hk:SchOk al key)(w:World)(hn:ws.length≤10)(hx:Ext w0 w)=>filled_own al key hk p c hc ws q d hn hd w (hcf.ext hx) (hcb.ext hx) (hr.ext hx) (hs.ext hx)
 have FL:=Lib.hid fun (hk:SchOk al key)(w:World)(hn:ws.length≤10)(hx:Ext w0 w)=>filled_any al key hk p c hc ws q d hn hd w (hcf.ext hx) (hcb.ext hx) (hr.ext hx) (hs.ext hx)
 have HKS:=Lib.hid fun (w:World)(hx:Ext w0 w)=>hks.ext hx
 have HKR:=Lib.hid fun (w:World)(hx:Ext w0 w)=>hr.ext hx
 have HCB:=Lib.hid fun (w:World)(hx:Ext w0 w)=>hcb.ext hx
 have EF:=Lib.hid (encS_fil al key ws hs.1)
 have XL:=Lib.hid (xW_length ws hs.1)
 have HC:=Lib.hid hc
 obtain⟨TL,hTL⟩:∃x,x=key.length:=⟨_,rfl⟩
 obtain⟨NN,hNN⟩:∃x,x=ws.length:=⟨_,rfl⟩
 obtain⟨KN,hKN⟩:∃x,x=keys.length:=⟨_,rfl⟩
 obtain⟨X,hX⟩:∃x,x=xW ws:=⟨_,rfl⟩
 have RK:=Lib.hid fun (w1 w:World)(g gt gb gs gr j r n:Nat)(hv:volT w1 g gt gs gr al X j r n w)(hk:SchOk al key)(hx:Ext w0 w1)(ht:TabR gt gb w1)=>hv.rekey key hk p c HC.out (HKR.out w1 hx) ht (HCB.out w1 hx)
 rw [←hTL]at FO FL MY RK⊢
 rw [←hNN]at FO FL EF hd⊢
 rw [←hX]at EF XL
 rw [←hKN]at he⊢
 have HKN:=Lib.hid hKN
 obtain⟨F0,hF0⟩:∃x,x=filF al key ws NN:=⟨_,rfl⟩
 rw [←hF0]at FO FL EF
 clear hcf hcb hr hs hks hc hTL hNN hKN hX hF0
 by_cases hok:NN≤10∧KN≤4
 · obtain ⟨hn10, hk4⟩ := hok
   have hg1:decide ((NN:Int)>10)=false:=decide_eq_false (by omega)
   have hg2:decide ((10:Int)<(NN:Int))=false:=decide_eq_false (by omega)
   have hg3:¬(10:Int)<(NN:Int):=by omega
   have hg4:decide ((KN:Int)>4)=false:=decide_eq_false (by omega)
   have hg5:decide ((4:Int)<(KN:Int))=false:=decide_eq_false (by omega)
   have hg6:¬(4:Int)<(KN:Int):=by omega
   go_enter Tryz.func3,Tryz.ntmps3
   go_wp2_with (first|((with_reducible apply wq_boxN (cs:=[.int .i64 al, .slice p TL c]) hm);exact rfl;exact rfl;clear hm;intro gl w hm)|((with_reducible show qLd);first|((with_reducible apply wq_ldW hm);exact rfl;infer_instance;exact rfl;(focus (repeat first|exact .hd|assumption|apply Has.tl);done);(focus (first|rfl|omega|(simp;done)|(simp;omega))))))
   refine(MY.out w).mono ?_
   rintro e_ w ⟨b,rfl,hb,hx_⟩
   replace hm:=hm.ext hx_
   clear hx_
   cases b with
   | false=>
     go_wp2_with fail
     go_ret
     exact⟨rfl,hm.x⟩
   | true =>
     have HK:=Lib.hid (hb rfl)
     clear hb
     go_wp2_with (first|((with_reducible show qLd);first|((with_reducible apply wq_ldW hm);exact rfl;infer_instance;exact rfl;(focus (repeat first|exact .hd|assumption|apply Has.tl);done);(focus (first|rfl|omega|(simp;done)|(simp;omega))))))
     refine(FO.out HK.out _ hn10 hm.x).mono ?_
     rintro e_ w ⟨w1,g,gt,gc,gs,L,gb,rfl,hx1,htb,hm2,hci⟩
     have X01:=Lib.hid (hm.x.trans hx1)
     have RL:=Lib.hid (row_ext (hm.row (g:=gl) (t:=24) (cs:=[.int .i64 al, .slice p TL c]) .hd) hx1)
     have TB:=Lib.hid htb
     have CI:=Lib.hid hci
     clear hm hx1 htb hci MY
     have hm:=hm2
     clear hm2
     go_wp2_with (first|((first|((with_reducible show qAl);first|((with_reducible apply wq_new hm);exact rfl;infer_instance)));clear hm;(first|(have hx_:=g1;clear hx_;intro gx_)|intro g1);intro w hm))
     have hv:volT w1 g gt gs g1 al X 0 0 NN w:=volT.of EF.out (hm.perm (perm3r _ _ _ _)) CI.out
     clear hm CI
     go_loopw [9] (fun i wr=>∃k:Nat,k≤4∧i= .int .i64 (k:Int)∧volT w1 g gt gs g1 al X k k NN wr) (fun i _=>4-(intOf i).toNat)
     case atStart=>exact⟨0,by omega,rfl,hv⟩
     case round =>
       obtain⟨k,hk,rfl,hv⟩:=hrel
       by_cases hlt:k<4
       · have hd1:decide ((k:Int)<4)=true:=decide_eq_true (by omega)
         have hd2:(k:Int)<4:=by omega
         have hd3:0≤(k:Int)∧(k:Int)<4:=by omega
         have RD:=Lib.hid (hv.read (by omega) hn10 k hlt)
         have LX:=XL.out k
         obtain⟨S,hS⟩:∃x,x=X k:=⟨_,rfl⟩
         have SX:=Lib.hid (rdC_set X k hlt)
         rw [←hS]at RD LX SX
         have KX:=Lib.hid (show k<(rdC X k).length from(show k<4 from hlt))
         clear hv hS
         go_wp2_with fail
         refine(RD.out).mono ?_
         rintro e_ w ⟨p1,c1,rfl,hr1,hv1⟩
         have s1:=conv_str p1 S c1 w hr1
         rw [LX]at s1
         obtain⟨gc',key',st',mv',L',hE,hm,hci⟩:=hv1
         have HE:=Lib.hid hE
         have HCI:=Lib.hid hci
         clear hr1 hE hci
         go_wp2_with (first|((with_reducible apply wq_st1e SX.out KX.out hm);exact rfl;infer_instance;exact rfl;exact rfl;exact rfl;exact rfl;exact(.tl (.tl .hd));clear hm;intro w hm))
         go_roundw
         case rel=>exact⟨k+1,by omega,by go_num,volT.of HE.out hm HCI.out⟩
         case measure=>simp [intOf]<;>omega
       · obtain rfl : k = 4:=by omega
         rw [show((4:Nat):Int)=4 from rfl]
         have hd1:decide ((4:Int)<4)=false:=by decide
         go_wp2_with fail
         go_loopw [12] (fun i wr=>∃n:Nat,n≤KN∧i= .int .i64 (n:Int)∧volT w1 g gt gs g1 al X 4 (4+4*n) NN wr) (fun i _=>KN-(intOf i).toNat)
         case atStart=>exact⟨0,by omega,rfl,hv⟩
         case round =>
           obtain⟨n,hn,rfl,hv⟩:=hrel
           by_cases hlt:n<KN
           · have he1 : decide ((n:Int)<(KN:Int))=true:=decide_eq_true (by omega)
             have he2:(n:Int)<(KN:Int):=by omega
             have he3:0≤(n:Int)∧(n:Int)<(KN:Int):=by omega
             obtain⟨A,rfl,kq,kc,hcell,hrd,hkc,_⟩:=(HKS.out w1 X01.out).row n (by rw [←HKN.out];exact hlt)
             have CA:=Lib.hid fun wx (hx:Ext w1 wx)=>hx.cell hcell
             have MK:=Lib.hid fun wx=>lmay_S al (keys.getD n []) kq kc wx
             have BL:=Lib.hid (build_lockS al kq (keys.getD n []).length kc)
             have RN:=Lib.hid fun (w:World)(hv:volT w1 g gt gs g1 al X 4 (4+4*n) NN w)(hk:SchOk al (keys.getD n []))=>hv.rekey (keys.getD n []) hk kq kc hkc hrd TB.out (HCB.out w1 X01.out)
             obtain⟨KY,hKY⟩:∃x,x=keys.getD n []:=⟨_,rfl⟩
             rw [←hKY]at CA MK BL RN
             obtain⟨KL,hKL⟩:∃x,x=KY.length:=⟨_,rfl⟩
             rw [←hKL]at CA MK BL RN
             clear hcell hrd hkc hKY hKL
             obtain⟨w,rfl⟩:∃w_,w_=wr:=⟨_,rfl⟩
             have hx0:=hv.x
             have R1:=fun wx (hwx:Ext w wx)=>row_ext RL.out (hx0.trans hwx)
             have GC:=Lib.hid fun wx (hwx:Ext w wx)=>CA.out wx (hx0.trans hwx)
             go_wp2_with fail
             refine region_new 9 (fun w'=>Ext _ w') 105 (by kernel_rfl) (by kernel_rfl) rfl (fun _ _ h k=>h.trans k) (drew_ext _) ?_
             simp only [tSC,List.take_zero,dSC,List.drop_zero,List.map_cons,List.map_nil]
             repeat (first
                 | (apply walk_is rfl rfl rfl
                    · (intro wx hwx;(with_reducible apply gq_row1 ((R1) wx hwx));infer_instance;exact rfl;exact rfl)
                    · (simp only [Act.put,sIB,sCS,sCZ];rfl))
                 |(apply walk_is rfl rfl rfl;(intro wx hwx;(with_reducible apply gq_cellW (GC.out wx hwx));infer_instance;exact rfl);(simp only [Act.put,sIB,sCS,sCZ];rfl))
                 |(apply walk_is rfl rfl rfl;(intro wx hwx;(with_reducible apply gq_build BL.out);exact rfl);(simp only [Act.put,sIB,sCS,sCZ];rfl))
                 | (apply walk_some (MayS al KY) 61 (MayS.stable _ _) rfl rfl rfl rfl
                    · (intro wx hwx;go_simp;with_reducible exact gives_callR (MK.out wx)))
                 | (apply walk_from_some (T:=[(61,MayS al KY)]) (NayS al KY) 62 (NayS.stable _ _) rfl rfl rfl
                    · (intro wx hwx;simp only [withS];(rintro x_ ⟨b_,rfl,h_⟩);refine⟨rfl, ?_⟩;go_simp;exact gives_val (V:=NayS al KY) (Ext.refl _) ⟨b_,rfl,h_⟩))
                 | (apply walk_is rfl rfl rfl
                    · (intro wx hwx;go_simp;(try go_bits);first|exact gives_same|exact gives_skip)
                    · (simp only [Act.put,sIB,sCS,sCZ];rfl))
                 | (apply walk_not rfl rfl rfl
                    · (simp only [Act.put,sIB,sCS,sCZ];rfl)))
             intro wz hwz
             simp only [zCC,zNR]
             repeat rw [fin_is]
             rw [fin_cons];intro x61 hx61
             repeat rw [fin_is]
             rw [fin_cons];intro x62 hx62
             repeat rw [fin_is]
             rw [fin_nil];intro hap
             simp only [Act.put,sIB,sCS,sCZ]at hap⊢
             obtain⟨b,rfl,hb⟩:=hx62
             clear hx61 hap MK BL GC R1
             have hv:=hv.ext hwz
             clear hwz
             obtain⟨w,rfl⟩:∃w_,w_=wz:=⟨_,rfl⟩
             cases b with
             | false=>
               have hx9:=hv.x
               clear hv hx0
               go_wp2_with fail
               go_ret
               exact⟨rfl,X01.out.trans hx9⟩
             | true =>
               have HB:=Lib.hid (hb rfl)
               have cA:=CA.out w hv.x
               have RQ:=Lib.hid (RN.out w hv HB.out)
               clear hb RN hv hx0
               go_wp2_with fail
               refine(RQ.out).mono ?_
               rintro e_ w ⟨rfl,gc',st',L',hE,hm,hci⟩
               have hv:volT w1 g gt gs g1 al X 4 (4+4*n+0) NN w:=volT.of hE hm hci
               clear hE hm hci cA CA RQ
               go_wp2_with fail
               go_loopw [13] (fun i wr=>∃k:Nat,k≤4∧i= .int .i64 (k:Int)∧volT w1 g gt gs g1 al X 4 (4+4*n+k) NN wr) (fun i _=>4-(intOf i).toNat)
               case atStart=>exact⟨0,by omega,rfl,hv⟩
               case round =>
                 obtain⟨k,hk,rfl,hv⟩:=hrel
                 by_cases hlt3:k<4
                 · have hd1:decide ((k:Int)<4)=true:=decide_eq_true (by omega)
                   have hd2:(k:Int)<4:=by omega
                   have hd3:0≤(k:Int)∧(k:Int)<4:=by omega
                   have RD:=Lib.hid (hv.read (by omega) hn10 k hlt3)
                   have LX:=XL.out k
                   have RC:=Lib.hid (rdC_at X k hlt3)
                   obtain⟨S,hS⟩:∃x,x=X k:=⟨_,rfl⟩
                   rw [←hS]at RD LX RC
                   clear hv hS
                   go_wp2_with fail
                   refine(RD.out).mono ?_
                   rintro e_ w ⟨p1,c1,rfl,hr1,hv1⟩
                   have S1:=Lib.hid fun wx (hwx:Ext w wx)=>(show(convert 22 9 (.slice p1 20 c1)).run Tryz.prog wx= .ok (.string (bstr S)) wx from by
                     have:=conv_str p1 S c1 wx (hr1.ext hwx)
                     rwa [LX]at this)
                   have CR:=Lib.hid fun wx (hwx:Ext w wx)=>(show wx.cell? ⟨g1,k,none⟩=some (.string (bstr S))from by
                     obtain⟨gc',key',st',mv',L',hE,hm,hci⟩:=hv1
                     rw [row_cell ((hm.ext hwx).row (.tl (.tl .hd)))];exact RC.out)
                   have HV:=Lib.hid hv1
                   clear hr1 hv1 LX
                   go_wp2_with fail
                   refine region_at 9 (fun w'=>Ext _ w') 105 (by kernel_rfl) (by kernel_rfl) rfl (fun _ _ h k=>h.trans k) (drew_ext _) ?_
                   simp only [tSC,List.take_zero,dSC,List.drop_zero,List.map_cons,List.map_nil]
                   repeat (first
                       |(apply walk_is rfl rfl rfl;(intro wx hwx;have s1:=S1.out wx hwx;go_simp;exact gives_same);(simp only [Act.put,sIB,sCS,sCZ];rfl))
                       |(apply walk_is rfl rfl rfl;(intro wx hwx;(with_reducible apply gq_cellW (CR.out wx hwx));infer_instance;exact rfl);(simp only [Act.put,sIB,sCS,sCZ];rfl))
                       | (apply walk_is rfl rfl rfl
                          · (intro wx hwx;go_simp;(try go_bits);first|exact gives_same|exact gives_skip)
                          · (simp only [Act.put,sIB,sCS,sCZ];rfl))
                       | (apply walk_not rfl rfl rfl
                          · (simp only [Act.put,sIB,sCS,sCZ];rfl)))
                   intro wz hwz
                   simp only [zCC,zNR]
                   repeat (first|rw [fin_is]|(rw [fin_cons];intro _ _))
                   rw [fin_nil]
                   try (replace hm:=hm.ext hwz)
                   simp only [Act.put,sIB,sCS,sCZ]
                   have HV:=Lib.hid (HV.out.ext hwz)
                   go_wp2_with fail
                   go_roundw
                   case rel=>exact⟨k+1,by omega,by go_num,HV.out⟩
                   case measure=>simp [intOf]<;>omega
                 · obtain rfl:k=4:=by omega
                   rw [show((4:Nat):Int)=4 from rfl]
                   have hd1:decide ((4:Int)<4)=false:=by decide
                   go_wp2_with fail
                   go_roundw
                   case rel=>exact⟨n+1,by omega,by go_num,hv⟩
                   case measure=>simp [intOf]<;>omega
           · obtain rfl:n=KN:=by omega
             have he1:decide ((n:Int)<(n:Int))=false:=decide_eq_false (by omega)
             have RQ:=Lib.hid (RK.out w1 wr g gt gb gs g1 4 (4+4*n) NN hv HK.out X01.out TB.out)
             have R1:=Lib.hid fun wx (hwx:Ext w1 wx)=>row_ext RL.out hwx
             have hx0:=hv.x
             clear hv RK
             go_wp2_with (((with_reducible apply wq_row1 (R1.out _ hx0));exact rfl;infer_instance;exact rfl;exact rfl))
             refine(RQ.out).mono ?_
             rintro e_ w ⟨rfl,gc',st',L',hE,hm,hci⟩
             clear hx0 RQ hci
             have hx0:=hm.x
             have VR:=Lib.hid (hm.row (g:=g) (t:=52) (.tl .hd))
             have VS:=Lib.hid (hm.rdB (g:=gs) (l:=st') .hd)
             have ES:=Lib.hid (hE.same EF.out)
             have LS:=Lib.hid hE.1
             clear hm hE
             go_wp2_with (((with_reducible apply wq_rowN (cs':=[.int .i64 al, .slice p TL c]) (R1.out _ hx0));exact rfl;infer_instance;exact rfl;exact rfl;exact rfl))
             refine(FL.out HK.out _ hn10 (X01.out.trans hx0)).mono ?_
             rintro e_ w ⟨g',gt',gc2,gs',ld',rfl,hv2,hs2,hx_⟩
             rw [←ES.out]at hs2
             have V2:=Lib.hid hv2
             have S2:=Lib.hid hs2
             clear hv2 hs2
             have hx2:=hx_
             clear hx_
             go_wp2_with fail
             refine(alike_any g gs g' gs' _ _ (volN_K gt al gc' none 4 gs _) (volC_K gt' al gc2 gs' ld') st' LS.out _ (row_ext VR.out hx2) (VS.out.ext hx2) V2.out S2.out).mono ?_
             rintro e_ w ⟨rfl,hx_⟩
             have hx3:=(hx0.trans hx2).trans hx_
             clear hx_ hx2 hx0
             go_wp2_with fail
             refine(AW.out _ (X01.out.trans hx3)).mono ?_
             rintro e_ w ⟨rfl,hx_⟩
             have hx4:=hx3.trans hx_
             clear hx_ hx3
             go_wp2_with fail
             go_ret
             exact⟨rfl,X01.out.trans hx4⟩
 · by_cases hn10:NN≤10
   · have hk4:¬KN≤4:=fun h=>hok ⟨hn10,h⟩
     have hg1:decide ((NN:Int)>10)=false:=decide_eq_false (by omega)
     have hg2:decide ((10:Int)<(NN:Int))=false:=decide_eq_false (by omega)
     have hg3:¬(10:Int)<(NN:Int):=by omega
     have hg4:decide ((KN:Int)>4)=true:=decide_eq_true (by omega)
     have hg5:decide ((4:Int)<(KN:Int))=true:=decide_eq_true (by omega)
     have hg6:(4:Int)<(KN:Int):=by omega
     clear hok
     go_enter Tryz.func3,Tryz.ntmps3
     go_wp2_with (first|((with_reducible apply wq_boxN (cs:=[.int .i64 al, .slice p TL c]) hm);exact rfl;exact rfl;clear hm;intro gl w hm)|((with_reducible show qLd);first|((with_reducible apply wq_ldW hm);exact rfl;infer_instance;exact rfl;(focus (repeat first|exact .hd|assumption|apply Has.tl);done);(focus (first|rfl|omega|(simp;done)|(simp;omega))))))
     refine(MY.out w).mono ?_
     rintro e_ w ⟨b,rfl,hb,hx_⟩
     replace hm:=hm.ext hx_
     clear hx_ hb
     cases b
     all_goals
       go_wp2_with fail
       go_ret
       exact⟨rfl,hm.x⟩
   · have hg1:decide ((NN:Int)>10)=true:=decide_eq_true (by omega)
     have hg2:decide ((10:Int)<(NN:Int))=true:=decide_eq_true (by omega)
     have hg3:(10:Int)<(NN:Int):=by omega
     clear hok
     go_enter Tryz.func3,Tryz.ntmps3
     go_wp2_with (first|((with_reducible apply wq_boxN (cs:=[.int .i64 al, .slice p TL c]) hm);exact rfl;exact rfl;clear hm;intro gl w hm)|((with_reducible show qLd);first|((with_reducible apply wq_ldW hm);exact rfl;infer_instance;exact rfl;(focus (repeat first|exact .hd|assumption|apply Has.tl);done);(focus (first|rfl|omega|(simp;done)|(simp;omega))))))
     refine(MY.out w).mono ?_
     rintro e_ w ⟨b,rfl,hb,hx_⟩
     replace hm:=hm.ext hx_
     clear hx_ hb
     cases b
     all_goals
       go_wp2_with fail
       go_ret
       exact⟨rfl,hm.x⟩
theorem ret_walk(al:Int)(key:List Byte)(p:Option Addr)(c:Nat)(ws:List (List Byte))(q:Option Addr)(d:Nat)(keys:List (List Byte))(r:Option Addr)(e:Nat)(w0:World)(_a1: -9223372036854775808≤al)(_a2:al≤9223372036854775807)(hr:RdB w0 p key)(hc:key.length≤c)(_a3:key.length≤maxLen)(hs:RdK w0 q 21 ws)(hd:ws.length≤d)(_a4:ws.length≤maxLen)(hks:RdR w0 r keys)(he:keys.length≤e)(_a5:keys.length≤maxLen)(hl:Coef w0∧CoefB w0):
   Gives Tryz.prog 3 #[.agg ([Value.int .i64 al]++([Value.slice p key.length c])).toArray, .slice q ws.length d, .slice r keys.length e] w0 (.bool true):=
 topret_any al key p c hc ws q d hd keys r e he w0 hl.1 hl.2 hr hs hks
open Go Go.ChangeShapes Go.WideShapes Go.ChangeAt Go.WideMaps Go.WideElems Go.RowKit
theorem cells_ints {H:Type}{enc:TypeId×Value→H}{P:Program}{w:World}{base:Nat}{spare:Nat→Bool}{held:Bool}{fuel:Nat}{t e:TypeId}{n:Nat}{k:IntKind}{cs:List Value}{ns:List Int}{q:List MemPlace}
   (ht:P.underlying t=some (.array n e)) (he:P.underlying e=some (.int k)) (hc:P.cellsOf e=1) (hm:P.cellsOf t=n)
   (h:DataW.trod enc P w base spare held fuel t cs=some (.agg (ns.map fun i=> .lit (.int k i)),q)):cs=ns.map fun i=> .int k i:=by
 obtain⟨xs,m,_,hx,hl,hn,hel⟩:=DataW.trod_array ht h
 have hx1:ns.map (fun i=>DataW.lit (H:=H) (.int k i))=xs.map (·.1):=by
   have:=congrArg Prod.fst hx
   simpa using this
 have hln:ns.length=n:=by have:=congrArg List.length hx1;simp only [List.length_map]at this;omega
 rw [hm]at hl
 apply List.ext_getElem?
 intro i
 by_cases hi:i<n
 · have hx':=hel i hi
   rw [hc,Nat.mul_one,List.getElem?_eq_getElem (by omega)]at hx'
   obtain⟨n0,e1,e2,_⟩:=DataW.trod_int he hx'
   have a1:cs[i]? =some (.int k n0):=by
     have:=congrArg (·[0]?) e1
     simpa [List.getElem?_take,List.getElem?_drop]using this
   have a2:=congrArg (·[i]?) hx1
   simp only [List.getElem?_map,List.getElem?_eq_getElem (show i<xs.length by omega),List.getElem?_eq_getElem (show i<ns.length by omega),Option.map_some,e2,Option.some.injEq]at a2
   injection a2 with a3
   injection a3 with _ a4
   rw [a1,List.getElem?_map,List.getElem?_eq_getElem (show i<ns.length by omega),Option.map_some,a4]
 · rw [List.getElem?_eq_none (by omega),List.getElem?_eq_none (by simp;omega)]
theorem cells_rows {H:Type}{enc:TypeId×Value→H}{P:Program}{w:World}{base:Nat}{spare:Nat→Bool}{held:Bool}{fuel:Nat}{t e b:TypeId}{n m:Nat}{k:IntKind}{cs:List Value}{rs:List (List Int)}{q:List MemPlace}
   (ht:P.underlying t=some (.array n e)) (he:P.underlying e=some (.array m b)) (hb:P.underlying b=some (.int k)) (hcb:P.cellsOf b=1) (hce:P.cellsOf e=m)
   (h:DataW.trod enc P w base spare held fuel t cs=some (.agg (rs.map fun r=> .agg (r.map fun i=> .lit (.int k i))),q)):∀i,i<n→(cs.drop (i*m)).take m=(rs.getD i []).map fun i=> .int k i:=by
 obtain⟨xs,m',_,hx,hl,hn,hel⟩:=DataW.trod_array ht h
 have hx1:(rs.map fun r=>DataW.agg (H:=H) (r.map fun i=> .lit (.int k i)))=xs.map (·.1):=by
   have:=congrArg Prod.fst hx
   simpa using this
 have hln:rs.length=n:=by have:=congrArg List.length hx1;simp only [List.length_map]at this;omega
 intro i hi
 have hx':=hel i hi
 rw [hce,List.getElem?_eq_getElem (by omega)]at hx'
 have a2:=congrArg (·[i]?) hx1
 simp only [List.getElem?_map,List.getElem?_eq_getElem (show i<xs.length by omega),List.getElem?_eq_getElem (show i<rs.length by omega),Option.map_some,Option.some.injEq]at a2
 have hx2:xs[i]=(DataW.agg (rs[i].map fun i=> .lit (.int k i)),xs[i].2):=by rw [a2]
 rw [hx2]at hx'
 rw [List.getD_eq_getElem?_getD,List.getElem?_eq_getElem (show i<rs.length by omega),Option.getD_some]
 exact cells_ints he hb hcb hce hx'
theorem gFirst : Tryz.prog.globalNamed "wringer/blake.first" = some 2 := by kernel_rfl
theorem gRows : Tryz.prog.globalNamed "wringer/blake.rows" = some 3 := by kernel_rfl
theorem tFirst:(Tryz.prog.globals[2]?).map (·.type)=some 168:=by kernel_rfl
theorem tRows:(Tryz.prog.globals[3]?).map (·.type)=some 184:=by kernel_rfl
def firstN:List Int:=[7640891576956012808,13503953896175478587,4354685564936845355,11912009170470909681,5840696475078001361,11170449401992604703,2270897969802886507,6620516959819538809]
def rowsN:List (List Int):=rowsL.map fun r=>r.map fun x=>(x.toNat:Int)
theorem firstN_v:(firstN.map fun i=>Value.int .u64 i)=firstL.map v64:=rfl
theorem rowsN_v(i:Nat)(hi:i<10):(rowsN.getD i []).map (fun i=>Value.int .u8 i)=(rowsL.getD i []).map v8:=by
 rw [rowsN,List.getD_eq_getElem?_getD,List.getElem?_map,List.getD_eq_getElem?_getD,List.getElem?_eq_getElem (by rw [rowsL_length];exact hi)]
 simp only [Option.map_some,Option.getD_some,List.map_map]
 rfl
theorem coefB_of {W:World}{cs0 cs1:List Value}(h0:∀i,W.cell? ⟨2,i,none⟩=cs0[i]?)(h1:∀i,W.cell? ⟨3,i,none⟩=cs1[i]?)(c0:cs0=firstN.map fun i=>Value.int .u64 i)(c1:∀i,i<10→(cs1.drop (i*16)).take 16=(rowsN.getD i []).map fun i=>Value.int .u8 i):CoefB W:=by
 refine⟨fun i hi=> ?_,rowsL_each,fun _=>rfl,fun i hi=> ?_⟩
 · rw [h0,c0,firstN_v,map64_at firstL (by rw [firstL_length];exact hi)]
 · have hl:=flatten_length 16 rowsL rowsL_each
   rw [rowsL_length]at hl
   have hq:i/16<10:=by omega
   have hr:i%16<16:=Nat.mod_lt _ (by omega)
   have e:i/16*16+i%16=i:=by omega
   show W.cell? ((⟨3,0,none⟩:Addr).add i)=_
   rw [Addr.add_mid,Nat.zero_add,h1]
   have hc:=congrArg (·[i%16]?) ((c1 (i/16) hq).trans (rowsN_v _ hq))
   simp only [List.getElem?_take,if_pos hr,List.getElem?_drop]at hc
   rw [e]at hc
   have hf:=flatten_getD 16 rowsL (i/16) (i%16) rowsL_each (by rw [rowsL_length];exact hq) hr
   rw [e]at hf
   have hle:((rowsL.getD (i/16) []).length)=16:=by
     rw [List.getD_eq_getElem?_getD,List.getElem?_eq_getElem (by rw [rowsL_length];exact hq)]
     exact rowsL_each _ (List.getElem_mem _)
   generalize rowsL.getD (i/16) []=RW at*
   rw [hc,hf,List.getElem?_map,List.getD_eq_getElem?_getD,List.getElem?_eq_getElem (show i%16<RW.length by omega)]
   rfl
def laidA : List (String × DataW Unit) := [("wringer/blake.first", Rows.laid_wringer_blake_first), ("wringer/blake.rows", Rows.laid_wringer_blake_rows), ("wringer/turn.mixes", Rows.laid_wringer_turn_mixes), ("wringer/turn.unmixes", Rows.laid_wringer_turn_unmixes)]
theorem gMixes : Tryz.prog.globalNamed "wringer/turn.mixes" = some 0 := by kernel_rfl
theorem gUnmixes : Tryz.prog.globalNamed "wringer/turn.unmixes" = some 1 := by kernel_rfl
theorem tMixes:(Tryz.prog.globals[0]?).map (·.type)=some 87:=by kernel_rfl
theorem tUnmixes:(Tryz.prog.globals[1]?).map (·.type)=some 87:=by kernel_rfl
theorem laid_coefA {W:World}(h:laidMetH Tryz.prog laidA W):Coef W∧CoefB W:=by
 rw [MakeChecks.laidMetH_plain _ _ _ (by kernel_rfl)]at h
 obtain⟨ps,⟨g0,t0,cs0,f0,p0,q0,hg0,ht0,hv0,hd0,⟨g1,t1,cs1,f1,p1,q1,hg1,ht1,hv1,hd1,⟨g2,t2,cs2,f2,p2,q2,hg2,ht2,hv2,hd2,⟨g3,t3,cs3,f3,p3,q3,hg3,ht3,hv3,hd3,_,_⟩,_⟩,_⟩,_⟩,_,_⟩:=h
 obtain rfl:=Option.some.inj (gFirst.symm.trans hg0)
 obtain rfl:=Option.some.inj (gRows.symm.trans hg1)
 obtain rfl:=Option.some.inj (gMixes.symm.trans hg2)
 obtain rfl:=Option.some.inj (gUnmixes.symm.trans hg3)
 obtain rfl:=Option.some.inj (tFirst.symm.trans ht0)
 obtain rfl:=Option.some.inj (tRows.symm.trans ht1)
 obtain rfl:=Option.some.inj (tMixes.symm.trans ht2)
 obtain rfl:=Option.some.inj (tUnmixes.symm.trans ht3)
 obtain⟨l0⟩:=cs0
 obtain⟨l1⟩:=cs1
 obtain⟨l2⟩:=cs2
 obtain⟨l3⟩:=cs3
 have c0:=cells_ints (ns:=firstN) Tryz.underlying168 Tryz.underlying69 (by kernel_rfl) (by kernel_rfl) hd0
 have c1:=cells_rows (rs:=rowsN) Tryz.underlying184 Tryz.underlying68 Tryz.underlying5 (by kernel_rfl) (by kernel_rfl) hd1
 have c2:=cells_ints (ns:=[2,3,1,1]) Tryz.underlying87 Tryz.underlying5 (by kernel_rfl) (by kernel_rfl) hd2
 have c3:=cells_ints (ns:=[14,11,13,9]) Tryz.underlying87 Tryz.underlying5 (by kernel_rfl) (by kernel_rfl) hd3
 refine⟨?_,coefB_of (fun i=>by have:=World.var?_cell hg0 hv0 i;simpa using this) (fun i=>by have:=World.var?_cell hg1 hv1 i;simpa using this) c0 c1⟩
 simp only at c2 c3
 subst c2 c3
 refine⟨⟨fun _=>rfl,fun i hi=> ?_⟩,⟨fun _=>rfl,fun i hi=> ?_⟩⟩
 · show W.cell? ((⟨0,0,none⟩:Addr).add i)=_
   rw [Addr.add_mid,Nat.zero_add,World.var?_cell hg2 hv2 i]
   rcases (show i=0∨i=1∨i=2∨i=3 by simp [mixesL]at hi;omega)with rfl|rfl|rfl|rfl<;>rfl
 · show W.cell? ((⟨1,0,none⟩:Addr).add i)=_
   rw [Addr.add_mid,Nat.zero_add,World.var?_cell hg3 hv3 i]
   rcases (show i=0∨i=1∨i=2∨i=3 by simp [unmixesL]at hi;omega)with rfl|rfl|rfl|rfl<;>rfl
set_option maxRecDepth 100000 in
theorem door_metA(os:Os)(args:Array Value):laidMetH Tryz.prog laidA ((World.doorLaid Tryz.prog 400 os).forCall (fun _ _=>0) ⟨#[],args,[]⟩).memory:=
 laidMetH_of_parts3 (fuel:=8) (laidMet_of_run' 8 (by kernel_rfl) (by kernel_rfl)) (by kernel_rfl) (by kernel_rfl)
end Go.Proofs.YtllnjbiebdkmbaaGreatDoor
