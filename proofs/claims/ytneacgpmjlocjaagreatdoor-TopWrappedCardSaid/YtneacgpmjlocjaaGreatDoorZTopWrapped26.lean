/-
  Texts of the program, walked, and plain ones. Conditions: those written in each theorem.
-/
import Derived.Test.YtneacgpmjlocjaaGreatDoorZTopWrapped0
import Derived.Test.YtneacgpmjlocjaaGreatDoorZTopWrapped25
import Derived.Test.YtneacgpmjlocjaaGreatDoorZTopWrapped5
import Derived.ProofKit
import Derived.LaidMore
import Derived.OpenShut
import Derived.Stop.Joined
import Derived.Test.YtneacgpmjlocjaaGreatDoorRows
import Derived.Test.YtneacgpmjlocjaaGreatDoorZTopWrapped7
set_option linter.unusedSimpArgs false
set_option linter.unusedVariables false
set_option maxHeartbeats 16000000
open Go.Lib (hid)
namespace Go.Proofs.YtneacgpmjlocjaaGreatDoor
open Go Go.RowKit
set_option maxRecDepth 100000
theorem wrapS(n:Int)(h:0≤n)(h2:n≤300):wrap64 n=n:=by unfold wrap64;omega
theorem topwrap_any(ka:Int)(kk:List Byte)(la:Int)(lk:List Byte)(xt:Int)(xn:List Byte)(xa:List (List Byte))(Y1 Y2 Y3:Value)(m:List Byte)(pk:Option Addr)(ck:Nat)(hck:kk.length≤ck)(pl:Option Addr)(cl:Nat)(hcl:lk.length≤cl)(pn:Option Addr)(cn:Nat)(hcn:xn.length≤cn)(pa:Option Addr)(ca:Nat)(hca:xa.length≤ca)(hla:xa.length≤maxLen)(pm:Option Addr)(cm:Nat)(hcm:m.length≤cm)(w0:World)(hcf:Coef w0)(hcb:CoefB w0)(hrk:RdB w0 pk kk)(hrl:RdB w0 pl lk)(hrn:RdB w0 pn xn)(hra:RdR w0 pa xa)(hrm:RdB w0 pm m):
   Gives Tryz.prog 4 #[.agg #[.int .i64 ka, .slice pk kk.length ck, .int .i64 la, .slice pl lk.length cl, .int .i64 xt, .slice pn xn.length cn, .slice pa xa.length ca,Y1,Y2,Y3, .slice pm m.length cm]] w0 (.bool true):=by
 unfold Gives
 have hm:=Own.start w0
 have MK:=hid fun w=>lmay_any ka kk pk ck w
 have ML_:=hid fun w=>lmay_any la lk pl cl w
 have MC:=hid fun (w:World)(hx:Ext w0 w)=>cmay_any xt xn xa pn cn pa ca hla w (hra.ext hx)
 have AW:=hid fun w (hx:Ext w0 w)=>awakeT w (hcf.ext hx)
 have TK:=hid fun (hk:SchOk ka kk)(w:World)(hx:Ext w0 w)=>topcipher_any ka kk hk pk ck hck w (hcf.ext hx) (hcb.ext hx) (hrk.ext hx)
 have TL:=hid fun (hk:SchOk la lk)(w:World)(hx:Ext w0 w)(px:Option Addr)(cx:Nat)(hcx:lk.length≤cx)(hpx:RdB w px lk)=>topcipher_any la lk hk px cx hcx w (hcf.ext hx) (hcb.ext hx) hpx
 have SE:=hid fun (g:Nat)(al:Int)(key:List Byte)(hok:CtxOk xt.toNat xn xa)(x:List Byte)(x0:0<x.length)(x1:mnB al≤x.length+xt.toNat)(x2:x.length+xt.toNat≤300)(px:Option Addr)(cx:Nat)(hcx:x.length≤cx)(w:World)(hx:Ext w0 w)=>cseals_any g al key xt.toNat xn xa hok pn cn hcn pa ca hca x x0 x1 x2 px cx hcx w (hrn.ext hx) (hra.ext hx)
 have OP:=hid fun (g:Nat)(al:Int)(key:List Byte)(hok:CtxOk xt.toNat xn xa)(x:List Byte)(x0:0<x.length)(x1:mnB al≤x.length+xt.toNat)(x2:x.length+xt.toNat≤300)(px:Option Addr)(cx:Nat)(hcx:x.length+xt.toNat≤cx)(w:World)(hx:Ext w0 w)=>copens_any g al key xt.toNat xn xa hok pn cn hcn pa ca hca x x0 x1 x2 px cx hcx w (hrn.ext hx) (hra.ext hx)
 have HRL:=hid fun (w:World)(hx:Ext w0 w)=>hrl.ext hx
 have HRM:=hid fun (w:World)(hx:Ext w0 w)=>hrm.ext hx
 have CV:=hid fun (w:World)(px:Option Addr)(cx:Nat)(hpx:RdB w px m)=>conv_str px m cx w hpx
 have SK:Hid (SchOk la lk→0<lk.length∧lk.length≤200):=hid fun h=>by
   rcases h with ⟨_,h⟩|⟨_,h⟩|⟨_,h⟩<;>omega
 have HCL:=hid hcl
 have HCM:=hid hcm
 obtain⟨KL,hKL⟩:=exq (kk.length)
 obtain⟨LL,hLL⟩:=exq (lk.length)
 obtain⟨NL,hNL⟩:=exq (xn.length)
 obtain⟨AL,hAL⟩:=exq (xa.length)
 obtain⟨M,hM⟩:=exq (m.length)
 rw [←hKL]at TK MK
 rw [←hLL]at TL ML_ SK HCL
 rw [←hNL,←hAL]at SE OP MC
 rw [←hM]at CV HCM
 rw [←hKL,←hLL,←hNL,←hAL,←hM]
 have HLL:=hid hLL
 have HM:=hid hM
 clear hKL hLL hNL hAL hM hcf hcb hrk hrl hrn hra hrm hck hcl hcn hca hcm hla
 go_enter Tryz.func4,Tryz.ntmps4
 go_wp2_with (first|((with_reducible apply wq_boxN (cs:=[.int .i64 ka, .slice pk KL ck, .int .i64 la, .slice pl LL cl, .int .i64 xt, .slice pn NL cn, .slice pa AL ca,Y1,Y2,Y3, .slice pm M cm]) hm);exact rfl;exact rfl;clear hm;intro g1 w hm))
 obtain⟨BX,hBX⟩:∃x,x=([.int .i64 ka, .slice pk KL ck, .int .i64 la, .slice pl LL cl, .int .i64 xt, .slice pn NL cn, .slice pa AL ca,Y1,Y2,Y3, .slice pm M cm]:List Value):=⟨_,rfl⟩
 have E1:=hid (show(BX.drop 0).take 2=[.int .i64 ka, .slice pk KL ck]from by rw [hBX];rfl)
 have E2:=hid (show(BX.drop 2).take 2=[.int .i64 la, .slice pl LL cl]from by rw [hBX];rfl)
 have E3:=hid (show(BX.drop 4).take 3=[.int .i64 xt, .slice pn NL cn, .slice pa AL ca]from by rw [hBX];rfl)
 have E4:=hid (show BX[10]? =some (.slice pm M cm)from by rw [hBX];rfl)
 rw [←hBX]at hm
 clear hBX
 refine pregion 15 (Marks.of (ThreeV w0 [⟨g1,52,BX⟩] 24 [.int .i64 0, .slice none 0 0] [.int .i64 ka, .slice pk KL ck] 24 [.int .i64 0, .slice none 0 0] [.int .i64 la, .slice pl LL cl] 50 [.int .i64 0, .slice none 0 0, .slice none 0 0] [.int .i64 xt, .slice pn NL cn, .slice pa AL ca]) ThreeV.ext) [8,9,10,11,12,13] 146 (by kernel_rfl) (by kernel_rfl) rfl (ThreeV.start (hm.ext (drew_ext _))) ?_
 simp only [zTa]
 repeat (first
     |(apply pwalk_is rfl rfl rfl rfl;(intro vs_ wx hJ_;have hm:=ThreeV.low hJ_;(with_reducible apply gq_ldN hm);infer_instance;exact rfl;(focus ((repeat (first|exact .hd|assumption|apply Has.tl|apply Has.app));done));(exact E1.out);exact rfl);(simp only [zPu];rfl))
     |(apply pwalk_is rfl rfl rfl rfl;(intro vs_ wx hJ_;have hm:=ThreeV.low hJ_;(with_reducible apply gq_ldN hm);infer_instance;exact rfl;(focus ((repeat (first|exact .hd|assumption|apply Has.tl|apply Has.app));done));(exact E2.out);exact rfl);(simp only [zPu];rfl))
     |(apply pwalk_is rfl rfl rfl rfl;(intro vs_ wx hJ_;have hm:=ThreeV.low hJ_;(with_reducible apply gq_ldN hm);infer_instance;exact rfl;(focus ((repeat (first|exact .hd|assumption|apply Has.tl|apply Has.app));done));(exact E3.out);exact rfl);(simp only [zPu];rfl))
     |(apply pwalk_is rfl rfl rfl rfl;(intro vs_ wx hJ_;have hm:=ThreeV.low hJ_;(with_reducible apply gq_ld1 hm);infer_instance;exact rfl;(focus ((repeat (first|exact .hd|assumption|apply Has.tl|apply Has.app));done));(exact E4.out));(simp only [zPu];rfl))
     | (apply pwalk_mark (T:=[]) 0 [] rfl rfl rfl (by kernel_rfl) rfl
        · (intro vs_ wx hJ_ hn_ hD_;simp only [pwithS];obtain⟨R_,hm,hK_⟩:=ThreeV.n0 hJ_ hn_;refine⟨rfl, ?_⟩;refine zG hm ?_;clear hm;intro g_ w_ hm;exact mark_end rfl (hK_ g_ _ hm)))
     | (apply pwalk_mark (T:=[]) 1 [] rfl rfl rfl (by kernel_rfl) rfl
        · (intro vs_ wx hJ_ hn_ hD_;simp only [pwithS];obtain⟨R_,hm,hK_⟩:=ThreeV.n1 hJ_ hn_;refine⟨rfl, ?_⟩;refine zG hm ?_;clear hm;intro g_ w_ hm;exact mark_end rfl (hK_ g_ _ hm)))
     | (apply pwalk_mark (T:=[]) 2 [] rfl rfl rfl (by kernel_rfl) rfl
        · (intro vs_ wx hJ_ hn_ hD_;simp only [pwithS];obtain⟨R_,hm,hK_⟩:=ThreeV.n2 hJ_ hn_;refine⟨rfl, ?_⟩;refine zG hm ?_;clear hm;intro g_ w_ hm;exact mark_end rfl (hK_ g_ _ hm)))
     | (apply pwalk_mark (T:=[(3,PMk 0)]) 3 [] rfl rfl rfl (by kernel_rfl) rfl
        · (intro vs_ wx hJ_ hn_ hD_;simp only [pwithS];intro x_ hx_;obtain⟨g_,R_,rfl,hm,hK_⟩:=ThreeV.s0 hJ_ hn_ hx_;refine⟨rfl, ?_⟩;(with_reducible apply wq_stW (cs':=[.int .i64 ka, .slice pk KL ck]) hm);exact rfl;infer_instance;exact rfl;exact rfl;(exact .hd);exact rfl;exact rfl;(exact(by intro v_ hv_;simp at hv_;rcases hv_ with rfl|rfl<;>rfl));clear hm;intro w_ hm;exact mark_end rfl (fun u_=>hK_ u_ _ hm)))
     | (apply pwalk_mark (T:=[(4,PMk 1)]) 4 [] rfl rfl rfl (by kernel_rfl) rfl
        · (intro vs_ wx hJ_ hn_ hD_;simp only [pwithS];intro x_ hx_;obtain⟨g_,R_,rfl,hm,hK_⟩:=ThreeV.s1 hJ_ hn_ hx_;refine⟨rfl, ?_⟩;(with_reducible apply wq_stW (cs':=[.int .i64 la, .slice pl LL cl]) hm);exact rfl;infer_instance;exact rfl;exact rfl;(exact .hd);exact rfl;exact rfl;(exact(by intro v_ hv_;simp at hv_;rcases hv_ with rfl|rfl<;>rfl));clear hm;intro w_ hm;exact mark_end rfl (fun u_=>hK_ u_ _ hm)))
     | (apply pwalk_mark (T:=[(5,PMk 2)]) 5 [] rfl rfl rfl (by kernel_rfl) rfl
        · (intro vs_ wx hJ_ hn_ hD_;simp only [pwithS];intro x_ hx_;obtain⟨g_,R_,rfl,hm,hK_⟩:=ThreeV.s2 hJ_ hn_ hx_;refine⟨rfl, ?_⟩;(with_reducible apply wq_stW (cs':=[.int .i64 xt, .slice pn NL cn, .slice pa AL ca]) hm);exact rfl;infer_instance;exact rfl;exact rfl;(exact .hd);exact rfl;exact rfl;(exact(by intro v_ hv_;simp at hv_;rcases hv_ with rfl|rfl|rfl<;>rfl));clear hm;intro w_ hm;exact mark_end rfl (fun u_=>hK_ u_ _ hm)))
     | (apply pwalk_is rfl rfl rfl rfl
        · (intro vs_ wx hJ_;have hm:=ThreeV.low hJ_;first|((with_reducible show qGl);first|(exact zJ hm)|(exact zK hm)|(exact zL hm))|(go_simp;(try go_bits);first|exact gives_same|exact gives_skip))
        · (simp only [zPu];rfl)))
 intro vs_ wz hJ_ hl_ hall_
 simp only [zZi]
 repeat rw [pfin_is]
 rw [pfin_cons];intro x3 hx3
 repeat rw [pfin_is]
 rw [pfin_cons];intro x4 hx4
 repeat rw [pfin_is]
 rw [pfin_cons];intro x5 hx5
 repeat rw [pfin_is]
 rw [pfin_cons];intro y3 hy3
 repeat rw [pfin_is]
 rw [pfin_cons];intro y4 hy4
 repeat rw [pfin_is]
 rw [pfin_cons];intro y5 hy5
 repeat rw [pfin_is]
 rw [pfin_nil]
 simp only [zPu]
 clear hm
 obtain⟨g3,g4,g5,rfl,rfl,rfl,hm⟩:=ThreeV.fin hJ_ hx3 hx4 hx5 (fun i hi=>hall_ i hi)
 clear hJ_ hl_ hall_ hx3 hx4 hx5 hy3 hy4 hy5 y3 y4 y5
 go_wp2_with (first|((with_reducible show qLd);refine zB hm ?_))
 refine(MK.out _).mono ?_
 rintro e_ w ⟨b1,rfl,hb,hx_⟩
 replace hm:=hm.ext hx_
 clear hx_ MK
 cases b1 with
 | false=>
   go_wp2_with fail
   go_ret
   exact⟨rfl,hm.x⟩
 | true =>
   have HK:=hid (hb rfl)
   clear hb
   go_wp2_with (first|((with_reducible show qLd);refine zB hm ?_))
   refine(ML_.out _).mono ?_
   rintro e_ w ⟨b2,rfl,hb,hx_⟩
   replace hm:=hm.ext hx_
   clear hx_ ML_
   cases b2 with
   | false=>
     go_wp2_with fail
     go_ret
     exact⟨rfl,hm.x⟩
   | true=>
     have HL:=hid (hb rfl)
     clear hb
     go_wp2_with (first|((with_reducible show qLd);refine zB hm ?_))
     refine(MC.out _ hm.x).mono ?_
     rintro e_ w ⟨b3,rfl,hb,hx_⟩
     replace hm:=hm.ext hx_
     clear hx_ MC
     cases b3 with
     | false=>
       go_wp2_with fail
       go_ret
       exact⟨rfl,hm.x⟩
     | true=>
       have HO:=hid (hb rfl)
       clear hb
       by_cases h16:M<16
       · have f1:decide ((M:Int)<16)=true:=decide_eq_true (by omega)
         clear h16
         go_wp2_with fail
         go_ret
         exact⟨rfl,hm.x⟩
       have f1:decide ((M:Int)<16)=false:=decide_eq_false (by omega)
       by_cases h200:200<M
       · have f2:decide ((M:Int)>200)=true:=decide_eq_true (by omega)
         have f3:decide (200<(M:Int))=true:=decide_eq_true (by omega)
         clear h200 h16
         go_wp2_with fail
         go_ret
         exact⟨rfl,hm.x⟩
       have f2:decide ((M:Int)>200)=false:=decide_eq_false (by omega)
       have f3:decide (200<(M:Int))=false:=decide_eq_false (by omega)
       obtain⟨⟨z1,z1'⟩,_⟩:=HO.out
       obtain⟨z2,z3⟩:=SK.out HL.out
       have kw:wrap64 ((LL:Int)+xt)=(LL:Int)+xt:=wrapS _ (by omega) (by omega)
       by_cases hS:ka≠3∧(LL:Int)+xt<16
       · have f4:(ka !=3)=true:=by rw [bne_iff_ne];exact hS.1
         have f5:decide ((LL:Int)+xt<16)=true:=decide_eq_true hS.2
         clear hS h200 h16 z1 z1' z2 z3
         go_wp2_with (first|((with_reducible show qLd);refine zC hm ?_))
         go_ret
         exact⟨rfl,hm.x⟩
       have hO:CtxOk (xt.toNat:Int) xn xa:=by
         have h:=HO.out
         rw [Int.toNat_of_nonneg h.1.1]
         exact h
       have hmn:mnB ka≤lk.length+xt.toNat:=by
         rw [←HLL.out]
         unfold mnB
         split<;>omega
       have KEY:(ka !=3)=false∨((ka !=3)=true∧decide ((LL:Int)+xt<16)=false):=by
         by_cases e:ka=3
         · exact .inl (by rw [e];rfl)
         · exact .inr ⟨by rw [bne_iff_ne];exact e,decide_eq_false (by omega)⟩
       have SE1:=hid fun (w:World)(gk:Nat)(hx:Ext w0 w)(hC:CipR w gk ka kk)=>SE.out gk ka kk hO lk (by rw [←HLL.out];exact z2) hmn (by rw [←HLL.out];omega) pl cl (by rw [←HLL.out];exact HCL.out) w hx hC (HRL.out w hx)
       have SE2:=hid fun (w:World)(gl:Nat)(hx:Ext w0 w)(hC:CipR w gl la lk)=>SE.out gl la lk hO m (by rw [←HM.out];omega) (by rw [←HM.out];unfold mnB;split<;>omega) (by rw [←HM.out];omega) pm cm (by rw [←HM.out];exact HCM.out) w hx hC (HRM.out w hx)
       have OP1:=hid fun (w:World)(gk:Nat)(hx:Ext w0 w)(hC:CipR w gk ka kk)(px:Option Addr)(cx:Nat)(hcx:lk.length+xt.toNat≤cx)=>OP.out gk ka kk hO lk (by rw [←HLL.out];exact z2) hmn (by rw [←HLL.out];omega) px cx hcx w hx hC
       have OP2:=hid fun (w:World)(gl:Nat)(hx:Ext w0 w)(hC:CipR w gl la lk)(px:Option Addr)(cx:Nat)(hcx:m.length+xt.toNat≤cx)=>OP.out gl la lk hO m (by rw [←HM.out];omega) (by rw [←HM.out];unfold mnB;split<;>omega) (by rw [←HM.out];omega) px cx hcx w hx hC
       rw [←HLL.out,Int.toNat_of_nonneg z1]at SE1 OP1
       rw [←HM.out,Int.toNat_of_nonneg z1]at SE2 OP2
       obtain⟨S1,hS1⟩:=exq (sealL ka kk xt.toNat xn xa lk)
       obtain⟨S2,hS2⟩:=exq (sealL la lk xt.toNat xn xa m)
       rw [←hS1]at SE1 OP1
       rw [←hS2]at SE2 OP2
       obtain⟨K1,hK1⟩:=exq (LL+xt.toNat)
       obtain⟨K2,hK2⟩:=exq (M+xt.toNat)
       rw [←hK1]at SE1 OP1
       rw [←hK2]at SE2 OP2
       obtain⟨Am,rfl⟩:=Option.isSome_iff_exists.1 ((HRM.out _ hm.x).1 (by rw [←HM.out];omega))
       have M0:=hid (show 0<m.length by rw [←HM.out];omega)
       have BL:=hid fun (r:Option Addr)(w:World)=>(show(Instr.build 24 #[(0, .int .i64 la),(1, .slice r LL LL)]).run Tryz.prog w= .ok (.agg #[.int .i64 la, .slice r LL LL]) w from by kernel_rfl)
       clear hO z1 z1' z2 z3 hmn hS h200 h16 SE OP hS1 hS2 hK1 hK2 SK HO HLL HM
       rcases KEY with f4|⟨f4,f5⟩
       all_goals
         go_wp2_with (first|((with_reducible show qLd);first|(refine zB hm ?_)|(refine zC hm ?_)))
         refine(TK.out HK.out _ hm.x).mono ?_
         rintro e_ w ⟨gk,rfl,hC,hx_⟩
         replace hm:=hm.ext hx_
         have C1:=hid hC
         clear hx_ hC TK
         go_wp2_with (first|((with_reducible show qLd);refine zB hm ?_))
         refine(TL.out HL.out _ hm.x pl cl HCL.out (HRL.out _ hm.x)).mono ?_
         rintro e_ w ⟨gl,rfl,hC,hx_⟩
         replace hm:=hm.ext hx_
         have D1:=hid (C1.out.ext hx_)
         have C2:=hid hC
         clear hx_ hC C1
         go_wp2_with (first|((with_reducible show qLd);first|(refine zB hm ?_)|(refine zC hm ?_)))
         refine(SE1.out _ gk hm.x D1.out).mono ?_
         rintro e_ w ⟨r1,e1,rfl,he1,hb,hx_⟩
         replace hm:=hm.ext hx_
         have C1:=hid (D1.out.ext hx_)
         have D2:=hid (C2.out.ext hx_)
         have B1:=hid hb
         have HE1:=hid he1
         clear hx_ hb he1 D1 C2 SE1
         go_wp2_with (first|((with_reducible show qLd);refine zB hm ?_))
         refine(SE2.out _ gl hm.x D2.out).mono ?_
         rintro e_ w ⟨r2,e2,rfl,he2,hb,hx_⟩
         replace hm:=hm.ext hx_
         have D1:=hid (C1.out.ext hx_)
         have P1:=hid (B1.out.ext hx_)
         have B2:=hid hb
         have HE2:=hid he2
         clear hx_ hb he2 C1 D2 B1 SE2
         go_wp2_with (first|((with_reducible show qLd);refine zB hm ?_))
         refine(OP1.out _ gk hm.x D1.out r1 e1 HE1.out P1.out).mono ?_
         rintro e_ w ⟨r3,rfl,hb,hx_⟩
         replace hm:=hm.ext hx_
         have P2:=hid (B2.out.ext hx_)
         have B3:=hid hb
         clear hx_ hb D1 P1 B2 OP1
         go_wp2_with (first|((with_reducible show qLd);refine zC hm ?_))
         refine(TL.out HL.out _ hm.x r3 LL (Nat.le_refl _) B3.out).mono ?_
         rintro e_ w ⟨gq,rfl,hC,hx_⟩
         replace hm:=hm.ext hx_
         have B2:=hid (P2.out.ext hx_)
         have C3:=hid hC
         clear hx_ hC P2 B3 BL TL
         go_wp2_with (first|((with_reducible show qLd);refine zB hm ?_))
         refine(OP2.out _ gq hm.x C3.out r2 e2 HE2.out B2.out).mono ?_
         rintro e_ w ⟨r4,rfl,hb,hx_⟩
         replace hm:=hm.ext hx_
         obtain⟨A4,rfl⟩:=Option.isSome_iff_exists.1 (hb.1 M0.out)
         have s1:=CV.out _ (some A4) M hb
         have s2:=CV.out _ (some Am) cm (HRM.out _ hm.x)
         clear hx_ hb C3 B2 OP2 CV HRM HRL
         go_wp2_with fail
         refine(AW.out _ hm.x).mono ?_
         rintro e_ w ⟨rfl,hx_⟩
         replace hm:=hm.ext hx_
         clear hx_
         go_wp2_with fail
         go_ret
         exact⟨rfl,hm.x⟩
theorem wrap_walk(ka:Int)(kk:List Byte)(pk:Option Addr)(ck:Nat)(la:Int)(lk:List Byte)(pl:Option Addr)(cl:Nat)(xt:Int)(xn:List Byte)(pn:Option Addr)(cn:Nat)(xa:List (List Byte))(pa:Option Addr)(ca:Nat)(yt:Int)(yn:List Byte)(py:Option Addr)(cy:Nat)(ya:List (List Byte))(pb:Option Addr)(cb:Nat)(m:List Byte)(pm:Option Addr)(cm:Nat)(w0:World)
   (_a1: -9223372036854775808≤ka) (_a2:ka≤9223372036854775807) (hrk:RdB w0 pk kk) (hck:kk.length≤ck) (_a3:kk.length≤maxLen) (_a4: -9223372036854775808≤la) (_a5:la≤9223372036854775807) (hrl:RdB w0 pl lk) (hcl:lk.length≤cl) (_a6:lk.length≤maxLen) (_a7: -9223372036854775808≤xt) (_a8:xt≤9223372036854775807) (hrn:RdB w0 pn xn) (hcn:xn.length≤cn) (_a9:xn.length≤maxLen) (hra:RdR w0 pa xa) (hca:xa.length≤ca) (hla:xa.length≤maxLen) (_b2: -9223372036854775808≤yt) (_b3:yt≤9223372036854775807) (_b4:RdB w0 py yn) (_b5:yn.length≤cy) (_b6:yn.length≤maxLen) (_b7:RdR w0 pb ya) (_b8:ya.length≤cb) (_b9:ya.length≤maxLen) (hrm:RdB w0 pm m) (hcm:m.length≤cm) (_c1:m.length≤maxLen) (hl:Coef w0∧CoefB w0):
   Gives Tryz.prog 4 #[.agg ((([Value.int .i64 ka])++(([Value.slice pk kk.length ck])))++((([Value.int .i64 la])++(([Value.slice pl lk.length cl])))++((([Value.int .i64 xt])++(([Value.slice pn xn.length cn])++(([Value.slice pa xa.length ca]))))++((([Value.int .i64 yt])++(([Value.slice py yn.length cy])++(([Value.slice pb ya.length cb]))))++(([Value.slice pm m.length cm])))))).toArray] w0 (.bool true):=
 topwrap_any ka kk la lk xt xn xa _ _ _ m pk ck hck pl cl hcl pn cn hcn pa ca hca hla pm cm hcm w0 hl.1 hl.2 hrk hrl hrn hra hrm
open Go Go.ChangeShapes Go.WideShapes Go.ChangeAt Go.WideMaps Go.WideElems Go.RowKit
theorem cells_ints {H:Type}{enc:TypeId×Value→H}{P:Program}{w:World}{base:Nat}{spare:Nat→Bool}{held:Bool}{fuel:Nat}{t e:TypeId}{n:Nat}{k:IntKind}{cs:List Value}{ns:List Int}{q:List MemPlace}
   (ht:P.underlying t=some (.array n e)) (he:P.underlying e=some (.int k)) (hc:P.cellsOf e=1) (hm:P.cellsOf t=n)
   (h:DataW.trod enc P w base spare held fuel t cs=some (.agg (ns.map fun i=> .lit (.int k i)),q)):cs=ns.map fun i=> .int k i:=by
 obtain⟨xs,m,_,hx,hl,hn,hel⟩:=DataW.trod_array ht h
 have hx1:ns.map (fun i=>DataW.lit (H:=H) (.int k i))=xs.map (·.1):=by
   have:=congrArg Prod.fst hx
   simpa using this
 have hln:ns.length=n:=by have:=congrArg List.length hx1;simp only [List.length_map]at this;omega
 rw [hm]at hl
 apply List.ext_getElem?
 intro i
 by_cases hi:i<n
 · have hx':=hel i hi
   rw [hc,Nat.mul_one,List.getElem?_eq_getElem (by omega)]at hx'
   obtain⟨n0,e1,e2,_⟩:=DataW.trod_int he hx'
   have a1:cs[i]? =some (.int k n0):=by
     have:=congrArg (·[0]?) e1
     simpa [List.getElem?_take,List.getElem?_drop]using this
   have a2:=congrArg (·[i]?) hx1
   simp only [List.getElem?_map,List.getElem?_eq_getElem (show i<xs.length by omega),List.getElem?_eq_getElem (show i<ns.length by omega),Option.map_some,e2,Option.some.injEq]at a2
   injection a2 with a3
   injection a3 with _ a4
   rw [a1,List.getElem?_map,List.getElem?_eq_getElem (show i<ns.length by omega),Option.map_some,a4]
 · rw [List.getElem?_eq_none (by omega),List.getElem?_eq_none (by simp;omega)]
theorem cells_rows {H:Type}{enc:TypeId×Value→H}{P:Program}{w:World}{base:Nat}{spare:Nat→Bool}{held:Bool}{fuel:Nat}{t e b:TypeId}{n m:Nat}{k:IntKind}{cs:List Value}{rs:List (List Int)}{q:List MemPlace}
   (ht:P.underlying t=some (.array n e)) (he:P.underlying e=some (.array m b)) (hb:P.underlying b=some (.int k)) (hcb:P.cellsOf b=1) (hce:P.cellsOf e=m)
   (h:DataW.trod enc P w base spare held fuel t cs=some (.agg (rs.map fun r=> .agg (r.map fun i=> .lit (.int k i))),q)):∀i,i<n→(cs.drop (i*m)).take m=(rs.getD i []).map fun i=> .int k i:=by
 obtain⟨xs,m',_,hx,hl,hn,hel⟩:=DataW.trod_array ht h
 have hx1:(rs.map fun r=>DataW.agg (H:=H) (r.map fun i=> .lit (.int k i)))=xs.map (·.1):=by
   have:=congrArg Prod.fst hx
   simpa using this
 have hln:rs.length=n:=by have:=congrArg List.length hx1;simp only [List.length_map]at this;omega
 intro i hi
 have hx':=hel i hi
 rw [hce,List.getElem?_eq_getElem (by omega)]at hx'
 have a2:=congrArg (·[i]?) hx1
 simp only [List.getElem?_map,List.getElem?_eq_getElem (show i<xs.length by omega),List.getElem?_eq_getElem (show i<rs.length by omega),Option.map_some,Option.some.injEq]at a2
 have hx2:xs[i]=(DataW.agg (rs[i].map fun i=> .lit (.int k i)),xs[i].2):=by rw [a2]
 rw [hx2]at hx'
 rw [List.getD_eq_getElem?_getD,List.getElem?_eq_getElem (show i<rs.length by omega),Option.getD_some]
 exact cells_ints he hb hcb hce hx'
theorem gFirst : Tryz.prog.globalNamed "wringer/blake.first" = some 3 := by kernel_rfl
theorem gRows : Tryz.prog.globalNamed "wringer/blake.rows" = some 4 := by kernel_rfl
theorem tFirst:(Tryz.prog.globals[3]?).map (·.type)=some 189:=by kernel_rfl
theorem tRows:(Tryz.prog.globals[4]?).map (·.type)=some 235:=by kernel_rfl
def firstN:List Int:=[7640891576956012808,13503953896175478587,4354685564936845355,11912009170470909681,5840696475078001361,11170449401992604703,2270897969802886507,6620516959819538809]
def rowsN:List (List Int):=rowsL.map fun r=>r.map fun x=>(x.toNat:Int)
theorem firstN_v:(firstN.map fun i=>Value.int .u64 i)=firstL.map v64:=rfl
theorem rowsN_v(i:Nat)(hi:i<10):(rowsN.getD i []).map (fun i=>Value.int .u8 i)=(rowsL.getD i []).map v8:=by
 rw [rowsN,List.getD_eq_getElem?_getD,List.getElem?_map,List.getD_eq_getElem?_getD,List.getElem?_eq_getElem (by rw [rowsL_length];exact hi)]
 simp only [Option.map_some,Option.getD_some,List.map_map]
 rfl
theorem coefB_of {W:World}{cs0 cs1:List Value}(h0:∀i,W.cell? ⟨3,i,none⟩=cs0[i]?)(h1:∀i,W.cell? ⟨4,i,none⟩=cs1[i]?)(c0:cs0=firstN.map fun i=>Value.int .u64 i)(c1:∀i,i<10→(cs1.drop (i*16)).take 16=(rowsN.getD i []).map fun i=>Value.int .u8 i):CoefB W:=by
 refine⟨fun i hi=> ?_,rowsL_each,fun _=>rfl,fun i hi=> ?_⟩
 · rw [h0,c0,firstN_v,map64_at firstL (by rw [firstL_length];exact hi)]
 · have hl:=flatten_length 16 rowsL rowsL_each
   rw [rowsL_length]at hl
   have hq:i/16<10:=by omega
   have hr:i%16<16:=Nat.mod_lt _ (by omega)
   have e:i/16*16+i%16=i:=by omega
   show W.cell? ((⟨4,0,none⟩:Addr).add i)=_
   rw [Addr.add_mid,Nat.zero_add,h1]
   have hc:=congrArg (·[i%16]?) ((c1 (i/16) hq).trans (rowsN_v _ hq))
   simp only [List.getElem?_take,if_pos hr,List.getElem?_drop]at hc
   rw [e]at hc
   have hf:=flatten_getD 16 rowsL (i/16) (i%16) rowsL_each (by rw [rowsL_length];exact hq) hr
   rw [e]at hf
   have hle:((rowsL.getD (i/16) []).length)=16:=by
     rw [List.getD_eq_getElem?_getD,List.getElem?_eq_getElem (by rw [rowsL_length];exact hq)]
     exact rowsL_each _ (List.getElem_mem _)
   generalize rowsL.getD (i/16) []=RW at*
   rw [hc,hf,List.getElem?_map,List.getD_eq_getElem?_getD,List.getElem?_eq_getElem (show i%16<RW.length by omega)]
   rfl
def laidA : List (String × DataW Unit) := [("wringer/blake.first", Rows.laid_wringer_blake_first), ("wringer/blake.rows", Rows.laid_wringer_blake_rows), ("wringer/turn.mixes", Rows.laid_wringer_turn_mixes), ("wringer/turn.unmixes", Rows.laid_wringer_turn_unmixes)]
theorem gMixes : Tryz.prog.globalNamed "wringer/turn.mixes" = some 0 := by kernel_rfl
theorem gUnmixes : Tryz.prog.globalNamed "wringer/turn.unmixes" = some 1 := by kernel_rfl
theorem tMixes:(Tryz.prog.globals[0]?).map (·.type)=some 109:=by kernel_rfl
theorem tUnmixes:(Tryz.prog.globals[1]?).map (·.type)=some 109:=by kernel_rfl
theorem laid_coefA {W:World}(h:laidMetH Tryz.prog laidA W):Coef W∧CoefB W:=by
 rw [MakeChecks.laidMetH_plain _ _ _ (by kernel_rfl)]at h
 obtain⟨ps,⟨g0,t0,cs0,f0,p0,q0,hg0,ht0,hv0,hd0,⟨g1,t1,cs1,f1,p1,q1,hg1,ht1,hv1,hd1,⟨g2,t2,cs2,f2,p2,q2,hg2,ht2,hv2,hd2,⟨g3,t3,cs3,f3,p3,q3,hg3,ht3,hv3,hd3,_,_⟩,_⟩,_⟩,_⟩,_,_⟩:=h
 obtain rfl:=Option.some.inj (gFirst.symm.trans hg0)
 obtain rfl:=Option.some.inj (gRows.symm.trans hg1)
 obtain rfl:=Option.some.inj (gMixes.symm.trans hg2)
 obtain rfl:=Option.some.inj (gUnmixes.symm.trans hg3)
 obtain rfl:=Option.some.inj (tFirst.symm.trans ht0)
 obtain rfl:=Option.some.inj (tRows.symm.trans ht1)
 obtain rfl:=Option.some.inj (tMixes.symm.trans ht2)
 obtain rfl:=Option.some.inj (tUnmixes.symm.trans ht3)
 obtain⟨l0⟩:=cs0
 obtain⟨l1⟩:=cs1
 obtain⟨l2⟩:=cs2
 obtain⟨l3⟩:=cs3
 have c0:=cells_ints (ns:=firstN) Tryz.underlying189 Tryz.underlying25 (by kernel_rfl) (by kernel_rfl) hd0
 have c1:=cells_rows (rs:=rowsN) Tryz.underlying235 Tryz.underlying132 Tryz.underlying5 (by kernel_rfl) (by kernel_rfl) hd1
 have c2:=cells_ints (ns:=[2,3,1,1]) Tryz.underlying109 Tryz.underlying5 (by kernel_rfl) (by kernel_rfl) hd2
 have c3:=cells_ints (ns:=[14,11,13,9]) Tryz.underlying109 Tryz.underlying5 (by kernel_rfl) (by kernel_rfl) hd3
 refine⟨?_,coefB_of (fun i=>by have:=World.var?_cell hg0 hv0 i;simpa using this) (fun i=>by have:=World.var?_cell hg1 hv1 i;simpa using this) c0 c1⟩
 simp only at c2 c3
 subst c2 c3
 refine⟨⟨fun _=>rfl,fun i hi=> ?_⟩,⟨fun _=>rfl,fun i hi=> ?_⟩⟩
 · show W.cell? ((⟨0,0,none⟩:Addr).add i)=_
   rw [Addr.add_mid,Nat.zero_add,World.var?_cell hg2 hv2 i]
   rcases (show i=0∨i=1∨i=2∨i=3 by simp [mixesL]at hi;omega)with rfl|rfl|rfl|rfl<;>rfl
 · show W.cell? ((⟨1,0,none⟩:Addr).add i)=_
   rw [Addr.add_mid,Nat.zero_add,World.var?_cell hg3 hv3 i]
   rcases (show i=0∨i=1∨i=2∨i=3 by simp [unmixesL]at hi;omega)with rfl|rfl|rfl|rfl<;>rfl
set_option maxRecDepth 100000 in
theorem door_metA(os:Os)(args:Array Value):laidMetH Tryz.prog laidA ((World.doorLaid Tryz.prog 400 os).forCall (fun _ _=>0) ⟨#[],args,[]⟩).memory:=
 laidMetH_of_parts3 (fuel:=8) (laidMet_of_run' 8 (by kernel_rfl) (by kernel_rfl)) (by kernel_rfl) (by kernel_rfl)
end Go.Proofs.YtneacgpmjlocjaaGreatDoor
