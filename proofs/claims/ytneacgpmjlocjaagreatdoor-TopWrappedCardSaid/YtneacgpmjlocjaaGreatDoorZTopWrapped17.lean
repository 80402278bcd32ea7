/-
  Texts of the program, walked, and plain ones. Conditions: those written in each theorem.
-/
import Derived.Test.YtneacgpmjlocjaaGreatDoorZTopWrapped0
import Derived.Test.YtneacgpmjlocjaaGreatDoorZTopWrapped7
import Derived.Test.YtneacgpmjlocjaaGreatDoorZTopWrapped4
import Derived.Test.YtneacgpmjlocjaaGreatDoorZTopWrapped3
import Derived.Test.YtneacgpmjlocjaaGreatDoorZTopWrapped16
import Derived.Test.YtneacgpmjlocjaaGreatDoorZTopWrapped12
import Derived.Test.YtneacgpmjlocjaaGreatDoorZTopWrapped5
import Derived.Test.YtneacgpmjlocjaaGreatDoorZTopWrapped15
import Derived.Test.YtneacgpmjlocjaaGreatDoorZTopWrapped9
set_option linter.unusedSimpArgs false
set_option linter.unusedVariables false
set_option maxHeartbeats 16000000
open Go.Lib (hid)
namespace Go.Proofs.YtneacgpmjlocjaaGreatDoor
open Go Go.RowKit
set_option maxRecDepth 100000
theorem hcplus_any(ks:List (List Byte))(p:Option Addr)(c:Nat)(w0:World)(hk:RdK w0 p 16 ks)(hc:ks.length≤c)(hcm:ks.length≤70368744177664):Gives Tryz.prog 216 #[.slice p ks.length c] w0 (A8 (plusL (zer 16) ks)):=by
 unfold Gives
 have hm:=Own.start w0
 have HK:=hid hk
 have HZ:=hid (show(zer (n:=8) 16).length=16 from zer_length)
 clear hk
 go_enter Tryz.func216,Tryz.ntmps216
 go_wp2_with (first|(((with_reducible show qAl);refine zG hm ?_);clear hm;(first|(have hx_:=g1;clear hx_;(first|(have hx_:=g2;clear hx_;(first|(have hx_:=g3;clear hx_;intro gx_)|intro g3))|intro g2))|intro g1);intro w hm))
 go_loopw [9] (fun i wr=>∃k:Nat,k≤ks.length∧i= .int .i64 k∧Own w0 wr [⟨g2,132,(plusL (zer 16) (ks.take k)).map v8⟩,⟨g1,132,(zer 16).map v8⟩]) (fun i _=>ks.length-(intOf i).toNat)
 case atStart=>exact⟨0,by omega,rfl,hm⟩
 case round =>
   obtain⟨k,hk,rfl,hm⟩:=hrel
   have hB:=plusL_length (ks.take k) (zer 16) HZ.out
   by_cases hlt:k<ks.length
   · have hd : decide ((k:Int)<(ks.length:Int))=true:=decide_eq_true (by omega)
     have hd2:(k:Int)<(ks.length:Int):=by omega
     obtain⟨a,rfl⟩:=HK.out.addr (by omega) (by omega)
     obtain⟨hK,hKl⟩:=HK.out.at (by omega) k hlt
     have hS:=plusL_take (zer 16) ks k hlt
     simp only [Option.getD_some]at hK
     generalize plusL (zer 16) (ks.take k)=B at*
     generalize ks.getD k []=K at*
     have HS:=hid hS
     have HK2:=hid hK
     have ES:Hid (B=part 16 0 (fun i=>nth B i^^^nth K i) (nth B)):=hid (part_start hB)
     have EE:Hid (part 16 16 (fun i=>nth B i^^^nth K i) (nth B)=bothL B K):=hid part_all
     have hK1:=Nat.le_of_eq hKl
     have hK2':=Nat.le_of_eq hKl.symm
     clear hK hS
     go_wp2_with (first|((with_reducible apply wq_rdW (HK2.out.ext hm.x));exact rfl;infer_instance;exact rfl;exact hKl)|((with_reducible show qSt);refine zE hm ?_;clear hm;intro w hm)|(((with_reducible show qAl);refine zG hm ?_);clear hm;(first|(have hx_:=g1;clear hx_;(first|(have hx_:=g2;clear hx_;(first|(have hx_:=g3;clear hx_;intro gx_)|intro g3))|intro g2))|intro g1);intro w hm))
     rw [ES.out]at hm
     go_loopw [13] (fun i wr=>∃j:Nat,j≤16∧i= .int .i64 j∧Own w0 wr [⟨g3,132,K.map v8⟩,⟨g2,132,(part 16 j (fun i=>nth B i^^^nth K i) (nth B)).map v8⟩,⟨g1,132,(zer 16).map v8⟩]) (fun i _=>16-(intOf i).toNat)
     case atStart=>exact⟨0,by omega,rfl,hm⟩
     case round =>
       obtain⟨j,hj,rfl,hm⟩:=hrel
       by_cases hjl:j<16
       · have hj1:decide ((j:Int)<16)=true:=decide_eq_true (by omega)
         have hj2:(j:Int)<16:=by omega
         have EJ:Hid (setN (part 16 j (fun i=>nth B i^^^nth K i) (nth B)) j (nth (part 16 j (fun i=>nth B i^^^nth K i) (nth B)) j^^^nth K j)=part 16 (j+1) (fun i=>nth B i^^^nth K i) (nth B)):=hid (by
           rw [nth_part_ge hjl (Nat.le_refl _)];exact part_set (f:=fun i=>nth B i^^^nth K i) hjl)
         have lJ:(part 16 j (fun i=>nth B i^^^nth K i) (nth B)).length=16:=part_length
         generalize part 16 j (fun i=>nth B i^^^nth K i) (nth B)=C at*
         go_wp2_with fail
         refine rgE 8 27 ?_
         simp only [zTa]
         repeat (first
             | (apply walk_is rfl rfl rfl
                · (intro wx hwx;first|((with_reducible show qGl);exact zJ (hm.ext hwx))|(go_simp;(try go_bits);first|exact gives_same|exact gives_skip))
                · (simp only [zPu];rfl))
             | (apply walk_not rfl rfl rfl
                · (simp only [zPu];rfl)))
         intro wz hwz
         simp only [zZi]
         repeat (first|rw [fin_is]|(rw [fin_cons];intro _ _))
         rw [fin_nil]
         try (replace hm:=hm.ext hwz)
         simp only [zPu]
         go_wp2_with (first|((with_reducible show qSt);refine zD hm ?_;clear hm;intro w hm))
         go_roundw
         case rel=>
           rw [EJ.out]at hm
           exact⟨j+1,by omega,by go_num,hm⟩
         case measure=>simp [intOf]<;>omega
       · obtain rfl:j=16:=by omega
         have hj1:decide (((16:Nat):Int)<16)=false:=decide_eq_false (by omega)
         rw [EE.out]at hm
         go_wp2_with fail
         go_roundw
         case rel=>exact⟨k+1,by omega,by go_num,by rw [HS.out];exact hm.drop⟩
         case measure=>simp [intOf]<;>omega
   · obtain rfl:k=ks.length:=by omega
     have hd:decide ((ks.length:Int)<(ks.length:Int))=false:=decide_eq_false (by omega)
     rw [List.take_length]at hm hB
     go_wp2_with (first|((with_reducible show qLd);refine zB hm ?_)|((with_reducible show qSt);refine zE hm ?_;clear hm;intro w hm))
     refine rtO hm rfl rfl ⟨rfl,hm.x⟩
theorem hzer_both(a:List Byte)(h:a.length=16):bothL (zer 16) a=a:=nth_ext (by rw [bothL_length,h]) fun i hi=>by
 rw [bothL_length]at hi
 rw [bothL_nth _ _ _ hi,zer,nth_tab hi]
 exact BitVec.zero_xor
theorem hcplus_two(a b:List Byte)(ha:a.length=16)(hb:b.length=16)(p:Option Addr)(c:Nat)(w0:World)(hk:RdK w0 p 16 [a,b])(hc:2≤c):Gives Tryz.prog 216 #[.slice p 2 c] w0 (A8 (bothL a b)):=by
 have:=hcplus_any [a,b] p c w0 hk hc (by simp)
 rwa [show plusL (zer 16) [a,b]=bothL a b from by show bothL (bothL (zer 16) a) b=_;rw [hzer_both _ ha]]at this
def OneS(w0:World)(R:List Blk)(g:Nat)(T:TypeId)(c0 c1:List Value)(s:List (Option Value))(w:World):Prop:=
 ∃a,s=[a]∧((a=none∧Own w0 w (⟨g,T,c0⟩::R))∨∃u,a=some u∧Own w0 w (⟨g,T,c1⟩::R))
section
variable {w0 w:World} {R:List Blk} {g:Nat} {T:TypeId} {c0 c1:List Value} {s:List (Option Value)}
theorem OneS.ext(s:List (Option Value))(w w':World)(h:OneS w0 R g T c0 c1 s w)(hx:Ext w w'):OneS w0 R g T c0 c1 s w':=by
 obtain⟨a,rfl,h⟩:=h
 rcases h with ⟨h1,h2⟩|⟨u,h1,h2⟩
 · exact⟨a,rfl, .inl ⟨h1,h2.ext hx⟩⟩
 · exact⟨a,rfl, .inr ⟨u,h1,h2.ext hx⟩⟩
theorem OneS.start(h:Own w0 w (⟨g,T,c0⟩::R)):OneS w0 R g T c0 c1 (List.replicate 1 none) w:=⟨none,rfl, .inl ⟨rfl,h⟩⟩
theorem OneS.any(h:OneS w0 R g T c0 c1 s w):∃cs,(cs=c0∨cs=c1)∧Own w0 w (⟨g,T,cs⟩::R):=by
 obtain⟨a,rfl,⟨_,h⟩|⟨_,_,h⟩⟩:=h
 · exact⟨_, .inl rfl,h⟩
 · exact⟨_, .inr rfl,h⟩
theorem OneS.st(h:OneS w0 R g T c0 c1 s w)(hn:s[0]? =some none):Own w0 w (⟨g,T,c0⟩::R)∧∀u w',Own w0 w' (⟨g,T,c1⟩::R)→OneS w0 R g T c0 c1 (s.set 0 (some u)) w':=by
 obtain⟨a,rfl,h⟩:=h
 obtain rfl:a=none:=by simpa using hn
 rcases h with ⟨_,h⟩|⟨_,h1,_⟩
 · exact⟨h,fun u w' hm=>⟨_,rfl, .inr ⟨u,rfl,hm⟩⟩⟩
 · cases h1
theorem OneS.fin(h:OneS w0 R g T c0 c1 s w)(hl:∀i,i<1→∃x,s[i]? =some (some x)):Own w0 w (⟨g,T,c1⟩::R):=by
 obtain⟨a,rfl,h⟩:=h
 obtain⟨x,hx⟩:=hl 0 (by omega)
 simp at hx
 subst hx
 rcases h with ⟨h1,_⟩|⟨_,_,h⟩
 · cases h1
 · exact h
end
theorem gq_bld0 {P:Program}{dst:Option Tmp}{ty:TypeId}{pos:String}{aft:Array Edge}{gd:Option (Nat×Bool)}{a:Act}{w:World}{T:TypeId}{v:Value}(hb:∀w,(Instr.build T #[]).run P w= .ok v w):gives P w (Is v) ((execOp a.eval (Oper.mk dst (.build T #[]) ty pos aft gd)).run P w):=by
 unfold execOp
 have h:=hb w
 simp [h]
 exact gives_same
def hcC(gk:Nat)(h l:List Byte):List Value:=[.pointer (some ⟨gk,0,none⟩)]++(h.map v8++l.map v8)
theorem hcC_length(gk:Nat)(h l:List Byte)(h1:h.length=16)(h2:l.length=16):(hcC gk h l).length=33:=by simp [hcC,h1,h2]
theorem hcC_h(gk:Nat)(h l:List Byte)(h1:h.length=16):((hcC gk h l).drop 1).take 16=h.map v8:=by
 rw [hcC,List.drop_left' (by rfl)];exact List.take_left' (by simp [h1])
theorem hcC_l(gk:Nat)(h l:List Byte)(h1:h.length=16)(h2:l.length=16):((hcC gk h l).drop 17).take 16=l.map v8:=by
 rw [hcC,←List.append_assoc,List.drop_left' (by simp [h1]),List.take_of_length_le (by simp [h2])]
theorem hcC_seth(gk:Nat)(h l x:List Byte)(h1:h.length=16):(hcC gk h l).take 1++x.map v8++(hcC gk h l).drop (1+16)=hcC gk x l:=by
 have e:(hcC gk h l).drop (1+16)=l.map v8:=by rw [hcC,←List.append_assoc,List.drop_left' (by simp [h1])]
 rw [e];simp [hcC]
theorem hcC_setl(gk:Nat)(h l x:List Byte)(h1:h.length=16)(h2:l.length=16):(hcC gk h l).take 17++x.map v8++(hcC gk h l).drop (17+16)=hcC gk h x:=by
 have e:(hcC gk h l).drop (17+16)=[]:=List.drop_of_length_le (by rw [hcC_length _ _ _ h1 h2];omega)
 have e2:(hcC gk h l).take 17=[.pointer (some ⟨gk,0,none⟩)]++h.map v8:=by rw [hcC,←List.append_assoc];exact List.take_left' (by simp [h1])
 rw [e,e2];simp [hcC]
def hone:List Byte:=setN (zer 16) 0 1#8
theorem hone_length:hone.length=16:=by rw [hone,setN_length,zer_length]
theorem build_h0(w:World):(Instr.build 132 #[]).run Tryz.prog w= .ok (A8 (zer 16)) w:=by kernel_rfl
theorem build_h1(w:World):(Instr.build 132 #[(0, .int .u8 1)]).run Tryz.prog w= .ok (A8 hone) w:=by kernel_rfl
theorem build_hc(gk:Nat)(w:World):(Instr.build 134 #[(0, .pointer (some ⟨gk,0,none⟩))]).run Tryz.prog w= .ok (.agg (hcC gk (zer 16) (zer 16)).toArray) w:=by kernel_rfl
def HcR(w:World)(g:Nat)(k0:List Byte)(ks:List (List Byte))(kl h l:List Byte):Prop:=∃gk,Row w g 134 (hcC gk h l)∧AesR w gk k0 ks kl∧h.length=16∧l.length=16
theorem HcR.ext {w w':World}{g:Nat}{k0 kl h l:List Byte}{ks:List (List Byte)}(q:HcR w g k0 ks kl h l)(hx:Ext w w'):HcR w' g k0 ks kl h l:=by
 obtain⟨gk,h1,h2,h3⟩:=q
 exact⟨gk,row_ext h1 hx,h2.ext hx,h3⟩
abbrev hcH(key:List Byte):List Byte:=aesE (eK0 key) (eKs key) (eKl key) (zer 16)
abbrev hcL(key:List Byte):List Byte:=aesE (eK0 key) (eKs key) (eKl key) hone
theorem hnew_any(gt gb:Nat)(key:List Byte)(hk:key.length=16∨key.length=24∨key.length=32)(p:Option Addr)(c:Nat)(hc:key.length≤c)(w0:World)(hr:RdB w0 p key)(ht:TabR gt gb w0):
   Calls Tryz.prog 46 #[.pointer (some ⟨gt,0,none⟩), .slice p key.length c] w0 fun e w'=>∃g L,e= .returned (.tuple #[.pointer (some ⟨g,0,none⟩), .int .i64 0])∧w0.heap.size≤g∧Own w0 w' L∧Keeps L (TabR gt gb) (fun wx=>HcR wx g (eK0 key) (eKs key) (eKl key) (hcH key) (hcL key)):=by
 have hm:=Own.start w0
 have EX:=hid fun (w:World)(hx:Ext w0 w)=>expand_any gt gb key hk p c w (hr.ext hx) hc (ht.ext hx)
 have HT:=hid fun w (hx:Ext w0 w)=>ht.ext hx
 have lH:(hcH key).length=16:=aesE_length _ _ _ _
 have lL:(hcL key).length=16:=aesE_length _ _ _ _
 have EH:=hid fun (gk:Nat)(w:World)(h:AesR w gk (eK0 key) (eKs key) (eKl key))=>(show Gives Tryz.prog 67 #[.pointer (some ⟨gk,0,none⟩),A8 (zer 16)] w (A8 (hcH key))from encrypt_any gk _ _ _ _ zer_length w h)
 have EL:=hid fun (gk:Nat)(w:World)(h:AesR w gk (eK0 key) (eKs key) (eKl key))=>(show Gives Tryz.prog 67 #[.pointer (some ⟨gk,0,none⟩),A8 hone] w (A8 (hcL key))from encrypt_any gk _ _ _ _ hone_length w h)
 have FIN:Hid (∀(g gk:Nat)(wx:World),Row wx g 134 (hcC gk (hcH key) (hcL key))→AesR wx gk (eK0 key) (eKs key) (eKl key)→HcR wx g (eK0 key) (eKs key) (eKl key) (hcH key) (hcL key)):=hid fun g gk wx h1 h2=>⟨gk,h1,h2,lH,lL⟩
 obtain⟨H,hH⟩:=exq (hcH key)
 obtain⟨L,hL⟩:=exq (hcL key)
 rw [←hH]at lH EH FIN⊢
 rw [←hL]at lL EL FIN⊢
 have SH:=hid fun gk=>hcC_seth gk (zer 16) (zer 16) H zer_length
 have SL:=hid fun gk=>hcC_setl gk H (zer 16) L lH zer_length
 have L0:=hid fun gk=>hcC_length gk (zer 16) (zer 16) zer_length zer_length
 have L1:=hid fun gk=>hcC_length gk H (zer 16) lH zer_length
 have C0:=hid fun gk cs (h:cs=hcC gk (zer 16) (zer 16)∨cs=hcC gk H (zer 16))=>(show cs[0]? =some (.pointer (some ⟨gk,0,none⟩))from by rcases h with rfl|rfl<;>rfl)
 have BH:=hid build_hc
 have B0:=hid build_h0
 have B1:=hid build_h1
 have LH:=hid lH
 have LL:=hid lL
 clear hr ht hk hc lH lL hH hL
 go_enter Tryz.func46,Tryz.ntmps46
 go_wp2_with (first|(go_at_call 65;(with_reducible refine(EX.out _ hm.x).mono ?_);rintro e_ w ⟨gk,LK,rfl,hgk_,hm1,KK⟩;replace hm:=hm.join hm1;clear hm1)|((with_reducible apply wq_build1 (BH.out gk));exact rfl;exact rfl)|(((with_reducible show qBx);refine zH hm ?_);clear hm;(first|(have hx_:=g1;clear hx_;intro gx_)|intro g1);intro w hm))
 have KA:=hid fun (wx:World)(cs:List Value)(h:Own w0 wx (⟨g1,134,cs⟩::(LK++[])))=>KK wx (fun b hb=>h.rows b (by simp [hb])) (HT.out wx h.x)
 have EHk:=hid fun (wx:World)(cs:List Value)(h:Own w0 wx (⟨g1,134,cs⟩::(LK++[])))=>EH.out gk wx (KA.out wx cs h)
 have ELk:=hid fun (wx:World)(cs:List Value)(h:Own w0 wx (⟨g1,134,cs⟩::(LK++[])))=>EL.out gk wx (KA.out wx cs h)
 refine pregion 17 (Marks.of (OneS w0 (LK++[]) g1 134 (hcC gk (zer 16) (zer 16)) (hcC gk H (zer 16))) OneS.ext) [16] 40 (by kernel_rfl) (by kernel_rfl) rfl (OneS.start (hm.ext (drew_ext _))) ?_
 simp only [zTa]
 repeat (first
     |(apply pwalk_is rfl rfl rfl rfl;(intro vs_ wx hJ_;obtain⟨cs_,hcs_,hm⟩:=OneS.any hJ_;(with_reducible apply gq_ld1 hm);infer_instance;exact rfl;exact .hd;exact(C0.out gk cs_ hcs_));(simp only [zPu];rfl))
     |(apply pwalk_is rfl rfl rfl rfl;(intro vs_ wx hJ_;obtain⟨cs_,hcs_,hm⟩:=OneS.any hJ_;(with_reducible apply gq_bld1 B1.out);exact rfl);(simp only [zPu];rfl))
     |(apply pwalk_is rfl rfl rfl rfl;(intro vs_ wx hJ_;obtain⟨cs_,hcs_,hm⟩:=OneS.any hJ_;(with_reducible apply gq_bld0 B0.out));(simp only [zPu];rfl))
     | (apply pwalk_mark (T:=[]) 0 [] rfl rfl rfl (by kernel_rfl) rfl
        · (intro vs_ wx hJ_ hn_ hD_;simp only [pwithS];obtain⟨hm,hK_⟩:=OneS.st hJ_ hn_;refine⟨rfl, ?_⟩;(with_reducible apply wq_stA hm);exact rfl;infer_instance;exact rfl;exact rfl;(exact .hd);(exact SH.out gk);(exact(by rw [List.length_map];exact LH.out));(exact(by rw [L0.out];omega));(exact(one_map _));clear hm;intro w_ hm;exact mark_end rfl (fun u_=>hK_ u_ _ hm)))
     | (apply pwalk_is rfl rfl rfl rfl
        · (intro vs_ wx hJ_;obtain⟨cs_,hcs_,hm⟩:=OneS.any hJ_;first|((with_reducible show qGl);first|(exact zJ hm)|(exact zK hm)|(exact zL hm))|(go_simp;(try go_bits);first|exact gives_same|exact gives_skip|with_reducible exact gives_call (EHk.out wx cs_ hm)|with_reducible exact gives_call (ELk.out wx cs_ hm)))
        · (simp only [zPu];rfl)))
 intro vs_ wz hJ_ hl_ hall_
 simp only [zZi]
 repeat rw [pfin_is]
 rw [pfin_cons];intro y1 hy1
 repeat rw [pfin_is]
 rw [pfin_nil]
 simp only [zPu]
 clear hm
 have hm:=OneS.fin hJ_ (fun i hi=>hall_ i hi)
 clear hJ_ hl_ hall_ hy1
 go_wp2_with (first|((with_reducible apply wq_stA hm);exact rfl;infer_instance;exact rfl;exact rfl;(focus ((repeat (first|exact .hd|assumption|apply Swap.tl|apply Swap.app));done));(exact SL.out gk);(exact(by rw [List.length_map];exact LL.out));(exact(by rw [L1.out];omega));(exact(one_map _));clear hm;intro w hm))
 go_ret2
 refine⟨g1,rfl,(show w0.heap.size≤(⟨g1,134,hcC gk H L⟩:Blk).g from hm.base .hd),_,hm,fun wx hrow htab=>FIN.out g1 gk wx (hrow ⟨g1,134,hcC gk H L⟩ (by simp)) (KK wx (fun b hb=>hrow b (by simp [hb])) htab)⟩
def setE(l:List (BitVec 64))(n:Nat)(x:W2):List (BitVec 64):=setN (setN l (2*n) x.1) (2*n+1) x.2
theorem setE_length(l:List (BitVec 64))(n:Nat)(x:W2):(setE l n x).length=l.length:=by simp [setE]
def inE(l:List (BitVec 64))(one:W2)(b:Nat):Nat→List (BitVec 64)
 |0=>l
 |i+1=>setE (inE l one b i) (b+i) (plusW (ent (inE l one b i) i) one 1#64)
theorem inE_length(l:List (BitVec 64))(one:W2)(b i:Nat):(inE l one b i).length=l.length:=by
 induction i with
 |zero=>rfl
 |succ i ih=>rw [inE,setE_length,ih]
def tbE(one:W2):Nat→List (BitVec 64)
 |0=>zer 32
 |k+1=>inE (tbE one k) (upK one k) (2^k) (2^k)
theorem tbE_length(one:W2)(k:Nat):(tbE one k).length=32:=by
 induction k with
 |zero=>exact zer_length
 |succ k ih=>rw [tbE,inE_length,ih]
def oneE(h:List Byte):W2:=dotF (num h 0 8,num h 8 8) (1#64,0#64) 128
def mkT(h:List Byte):List (BitVec 64):=tbE (oneE h) 4
theorem mkT_length(h:List Byte):(mkT h).length=32:=tbE_length _ _
theorem set_two {α :Type}(l:List α)(k:Nat)(a b: α)(h:k+1<l.length):l.take k++[a,b]++l.drop (k+2)=(l.set k a).set (k+1) b:=by
 have e1:(l.set k a).take (k+1)=l.take k++[a]:=by
   rw [List.take_succ_eq_append_getElem (by rw [List.length_set];omega),List.take_set_of_le (Nat.le_refl _)];simp
 rw [List.set_eq_take_append_cons_drop,if_pos (by rw [List.length_set];omega),e1,List.drop_set_of_lt (by omega)];simp
theorem setE_cells(l:List (BitVec 64))(n:Nat)(x:W2)(h:2*n+1<l.length):(l.map v64).take (n*2)++[v64 x.1,v64 x.2]++(l.map v64).drop (n*2+2)=(setE l n x).map v64:=by
 rw [set_two _ _ _ _ (by rw [List.length_map];omega),mapv_set,mapv_set,setE,Nat.mul_comm n 2]
theorem or_pow(k i:Nat)(hk:k<4)(hi:i<2^k):bits BinOp.or IntKind.i64 ((2^k:Nat):Int) (i:Int)=((2^k+i:Nat):Int):=by
 have:∀(k:Fin 4)(i:Fin 8),i.val<2^k.val→bits BinOp.or IntKind.i64 ((2^k.val:Nat):Int) (i.val:Int)=((2^k.val+i.val:Nat):Int):=by decide+kernel
 have h8:2^k≤2^3:=Nat.pow_le_pow_right (by omega) (by omega)
 exact this ⟨k,hk⟩ ⟨i,by omega⟩ hi
theorem wrap_pow(k:Nat)(hk:k<4):wrap64 ((2:Int)^k)=((2^k:Nat):Int):=by
 rcases (show k=0∨k=1∨k=2∨k=3 by omega)with rfl|rfl|rfl|rfl<;>decide+kernel
theorem rmake_tab(h:List Byte)(hh:h.length=16)(w0:World):Calls Tryz.prog 226 #[A8 h] w0 fun e w'=>∃g,e= .returned (.pointer (some ⟨g,0,none⟩))∧w0.heap.size≤g∧Row w' g 304 ((mkT h).map v64)∧Ext w0 w':=by
 have hm:=Own.start w0
 have L1:=hid fun (w:World)(p:Option Addr)(c:Nat)(hr:RdB w p h)=>show Gives Tryz.prog 183 #[.slice p 16 c] w (WV (num h 0 8) (num h 8 8))from by
   have:=load_any h p c w hr (by omega);rwa [hh]at this
 have D1:=hid fun (w:World)=>show Gives Tryz.prog 228 #[WV (num h 0 8) (num h 8 8), .agg #[.int .u64 1, .int .u64 0]] w (WP (oneE h))from ridot_any (num h 0 8,num h 8 8) (1#64,0#64) w
 have BZ:=hid fun w=>(by kernel_rfl:(Instr.build 191 #[(0, .int .u64 1)]).run Tryz.prog w= .ok (WV 1#64 0#64) w)
 have BT:=hid fun w=>(by kernel_rfl:(Instr.build 304 #[]).run Tryz.prog w= .ok (.agg ((zer (n:=64) 32).map v64).toArray) w)
 have U1:=hid fun (s:W2)(w:World)=>riup_any s w
 have PL:=hid fun (l:List (BitVec 64))(s:W2)(n:Nat)(w:World)=>show Gives Tryz.prog 229 #[.agg #[v64 (nth l (2*n)),v64 (nth l (2*n+1))],WP s, .int .u64 1] w (WP (plusW (ent l n) s 1#64))from riplus_any (ent l n) s 1#64 w
 have ET:=hid (show mkT h=tbE (oneE h) 4 from rfl)
 generalize oneE h=O at*
 generalize num h 0 8=h0 at*
 generalize num h 8 8=h1 at*
 have ha1:=Nat.le_of_eq hh
 have ha2:=Nat.le_of_eq hh.symm
 go_enter Tryz.func226,Tryz.ntmps226
 have bt:=BT.out
 have bz:=BZ.out
 go_wp2_with (first|(go_at_call 183;(with_reducible refine(L1.out _ _ _ (hm.rdB (g:=g1) (l:=h) (by repeat (first|exact Has.hd|assumption|apply Has.tl)))).mono ?_);rintro e_ w ⟨rfl,hx_⟩;replace hm:=hm.ext hx_;clear hx_)|(go_at_call 228;(with_reducible refine(D1.out _).mono ?_);rintro e_ w ⟨rfl,hx_⟩;replace hm:=hm.ext hx_;clear hx_)|((with_reducible show qSt);refine zE hm ?_;clear hm;intro w hm)|((first|((with_reducible show qAl);refine zG hm ?_)|((with_reducible show qBx);refine zH hm ?_));clear hm;(first|(have hx_:=g1;clear hx_;(first|(have hx_:=g2;clear hx_;(first|(have hx_:=g3;clear hx_;intro gx_)|intro g3))|intro g2))|intro g1);intro w hm))
 replace hm:Own w0 w [⟨g3,191,[v64 (upK O 0).1,v64 (upK O 0).2]⟩,⟨g2,304,(tbE O 0).map v64⟩,⟨g1,132,h.map v8⟩]:=hm
 go_loopw [13] (fun i wr=>∃k:Nat,k≤4∧i= .int .i64 k∧Own w0 wr [⟨g3,191,[v64 (upK O k).1,v64 (upK O k).2]⟩,⟨g2,304,(tbE O k).map v64⟩,⟨g1,132,h.map v8⟩]) (fun i _=>4-(intOf i).toNat)
 case atStart=>exact⟨0,by omega,rfl,hm⟩
 case round =>
   obtain⟨k,hk,rfl,hm⟩:=hrel
   by_cases hlt:k<4
   · have hd : decide ((k:Int)<4)=true:=decide_eq_true (by omega)
     have hd2:(k:Int)<4:=by omega
     have EK:Hid (tbE O (k+1)=inE (tbE O k) (upK O k) (2^k) (2^k)):=hid rfl
     have UK:Hid (upK O (k+1)=upW (upK O k)):=hid rfl
     have lT:=tbE_length O k
     generalize tbE O k=T at*
     generalize upK O k=S at*
     obtain⟨Q,hQ⟩:∃Q,Q=2^k:=⟨_,rfl⟩
     have wp:wrap64 ((2:Int)^k)=(Q:Int):=by rw [hQ];exact wrap_pow k hlt
     have OR:=hid fun i (hi:i<Q)=>(show bits BinOp.or IntKind.i64 (Q:Int) (i:Int)=((Q+i:Nat):Int)from by subst hQ;exact or_pow k i hlt hi)
     have hQ8:Q≤8:=by
       have:2^k≤2^3:=Nat.pow_le_pow_right (by omega) (by omega)
       omega
     rw [←hQ]at EK
     clear hQ
     have LI:=hid fun i=>(show(inE T S Q i).length=32 from by rw [inE_length];exact lT)
     have I0:Hid (inE T S Q 0=T):=hid rfl
     go_wp2_with fail
     rw [wp]
     go_loopw [18] (fun i wr=>∃j:Nat,j≤Q∧i= .int .i64 j∧Own w0 wr [⟨g3,191,[v64 S.1,v64 S.2]⟩,⟨g2,304,(inE T S Q j).map v64⟩,⟨g1,132,h.map v8⟩]) (fun i _=>Q-(intOf i).toNat)
     case atStart=>exact⟨0,by omega,rfl,by rw [I0.out];exact hm⟩
     case round =>
       obtain⟨j,hj,rfl,hm⟩:=hrel
       by_cases hlj:j<Q
       · have hd3:decide ((j:Int)<(Q:Int))=true:=decide_eq_true (by omega)
         have hd4:(j:Int)<(Q:Int):=by omega
         have oq:=OR.out j hlj
         have lJ:=LI.out j
         have IJ:Hid (inE T S Q (j+1)=setE (inE T S Q j) (Q+j) (plusW (ent (inE T S Q j) j) S 1#64)):=hid rfl
         generalize inE T S Q j=V at*
         have j16:(j:Int)<16:=by omega
         have q16:(Q:Int)+(j:Int)<16:=by omega
         have q17:(0:Int)≤(Q:Int)+(j:Int):=by omega
         have q18:((Q:Int)+(j:Int)).toNat=Q+j:=by omega
         have TE:=hid (show((V.map v64).drop (j*2)).take 2=[v64 (nth V (2*j)),v64 (nth V (2*j+1))]from by rw [Nat.mul_comm];exact two_at V j (by omega))
         have SE:=hid (setE_cells V (Q+j) (plusW (ent V j) S 1#64) (by omega))
         go_wp2_with fail
         refine rgE 16 42 ?_
         simp only [zTa]
         repeat (first
             |(apply walk_is rfl rfl rfl;(intro wx hwx;(with_reducible apply gq_ldN (hm.ext hwx));infer_instance;exact rfl;(focus (repeat first|exact .hd|assumption|apply Has.tl);done);(exact TE.out);exact rfl);(simp only [zPu];rfl))
             | (apply walk_is rfl rfl rfl
                · (intro wx hwx;first|((with_reducible show qGl);exact zK (hm.ext hwx))|(go_simp;(try go_bits);first|exact gives_same|exact gives_skip|with_reducible exact gives_call (PL.out V S j wx)))
                · (simp only [zPu];rfl))
             | (apply walk_not rfl rfl rfl
                · (simp only [zPu];rfl)))
         intro wz hwz
         simp only [zZi]
         repeat (first|rw [fin_is]|(rw [fin_cons];intro _ _))
         rw [fin_nil]
         try (replace hm:=hm.ext hwz)
         simp only [zPu]
         generalize plusW (ent V j) S 1#64=X at*
         go_wp2_with (first|((with_reducible apply wq_stA hm);exact rfl;infer_instance;exact rfl;exact rfl;(focus (repeat first|exact .hd|assumption|apply Swap.tl);done);(exact SE.out);exact rfl;(exact(by rw [List.length_map];omega));(exact(by simp [one64]));clear hm;intro w hm))
         go_roundw
         case rel=>exact⟨j+1,by omega,by go_num,by rw [IJ.out];exact hm⟩
         case measure=>simp [intOf]<;>omega
       · obtain rfl:j=Q:=by omega
         have hd3:decide ((j:Int)<(j:Int))=false:=decide_eq_false (by omega)
         rw [←EK.out]at hm
         go_wp2_with (first|(go_at_call 230;(with_reducible refine(U1.out _ _).mono ?_);rintro e_ w ⟨rfl,hx_⟩;replace hm:=hm.ext hx_;clear hx_)|((with_reducible show qLd);refine zB hm ?_)|((with_reducible show qSt);refine zE hm ?_;clear hm;intro w hm))
         go_roundw
         case rel=>exact⟨k+1,by omega,by go_num,by rw [UK.out];exact hm⟩
         case measure=>simp [intOf]<;>omega
   · obtain rfl:k=4:=by omega
     have hd:decide (((4:Nat):Int)<4)=false:=decide_eq_false (by omega)
     go_wp2_with fail
     go_ret
     exact⟨g2,rfl,(show w0.heap.size≤(⟨g2,304,(tbE O 4).map v64⟩:Blk).g from hm.base (.tl .hd)),by rw [ET.out];exact hm.row (.tl .hd),hm.x⟩
def stC(gt:Nat)(v:List Byte):List Value:= .pointer (some ⟨gt,0,none⟩)::v.map v8
theorem stC_drop(gt:Nat)(v:List Byte)(h:v.length=16):((stC gt v).drop 1).take 16=v.map v8:=by
 rw [stC,dSC,dZe,List.take_of_length_le (by rw [List.length_map];omega)]
theorem vnew_any(h:List Byte)(hh:h.length=16)(w0:World):Calls Tryz.prog 222 #[A8 h] w0 fun e w'=>∃g gt,e= .returned (.pointer (some ⟨g,0,none⟩))∧w0.heap.size≤g∧w0.heap.size≤gt∧gt≠g∧Row w' g 301 (stC gt (zer 16))∧Row w' gt 304 ((mkT h).map v64)∧Ext w0 w':=by
 have hm:=Own.start w0
 have M1:=hid fun w=>rmake_tab h hh w
 have BV:=hid fun g w=>(by kernel_rfl:(Instr.build 301 #[(0, .pointer (some ⟨g,0,none⟩))]).run Tryz.prog w= .ok (.agg (stC g (zer 16)).toArray) w)
 have ha1:=Nat.le_of_eq hh
 have ha2:=Nat.le_of_eq hh.symm
 clear hh
 go_enter Tryz.func222,Tryz.ntmps222
 go_wp2_with (first|((with_reducible show qLd);refine zB hm ?_)|(((with_reducible show qBx);refine zH hm ?_);clear hm;(first|(have hx_:=g1;clear hx_;(first|(have hx_:=g2;clear hx_;intro gx_)|intro g2))|intro g1);intro w hm))
 refine(M1.out _).mono ?_
 rintro e w ⟨gt,rfl,hg,hr,hx⟩
 replace hm:=hm.push hx hg hr
 clear hg hr hx
 have bv:=BV.out gt
 go_wp2_with (first|(((with_reducible show qBx);refine zH hm ?_);clear hm;(first|(have hx_:=g1;clear hx_;(first|(have hx_:=g2;clear hx_;intro gx_)|intro g2))|intro g1);intro w hm))
 go_ret
 have hn:=hm.2.1
 simp only [mCo,mNi,List.nodup_cons,List.mem_cons,not_or]at hn
 exact⟨g2,gt,rfl,(show w0.heap.size≤(⟨g2,301,stC gt (zer 16)⟩:Blk).g from hm.base .hd),(show w0.heap.size≤(⟨gt,304,(mkT h).map v64⟩:Blk).g from hm.base (.tl .hd)),fun e=>hn.1.1 e.symm,hm.row .hd,hm.row (.tl .hd),hm.x⟩
theorem vvalue_any(g gt:Nat)(v:List Byte)(hv:v.length=16)(w0:World)(h:Row w0 g 301 (stC gt v)):Gives Tryz.prog 224 #[.pointer (some ⟨g,0,none⟩)] w0 (A8 v):=by
 unfold Gives
 have hm:=Own.start w0
 have HR:=hid fun w (hx:Ext w0 w)=>row_ext h hx
 have HD:=hid (stC_drop gt v hv)
 have h1:=Nat.le_of_eq hv
 have h2:=Nat.le_of_eq hv.symm
 have HV:=hid hv
 clear h hv
 go_enter Tryz.func224,Tryz.ntmps224
 go_wp2_with (first|((with_reducible apply wq_rowN (HR.out _ hm.x));exact rfl;infer_instance;exact rfl;exact HD.out;exact(by rw [List.length_map];exact HV.out))|((with_reducible show qSt);refine zE hm ?_;clear hm;intro w hm)|(((with_reducible show qAl);refine zG hm ?_);clear hm;intro gx_;intro w hm))
 refine rtO hm rfl rfl ⟨rfl,hm.x⟩
def vl16:List Byte:=putL 259#64 8++putL 0#64 8
def wrF(l:List (BitVec 64))(v B:List Byte):Nat→List Byte
 |0=>v
 |k+1=>dotT l (blk (xorL (wrF l v B k) (B.drop (16*k))))
theorem dotT_length(l:List (BitVec 64))(a:List Byte):(dotT l a).length=16:=by rw [dotT,List.length_append,putL_length,putL_length]
theorem wrF_length(l:List (BitVec 64))(v B:List Byte)(k:Nat)(h:v.length=16):(wrF l v B k).length=16:=by
 cases k with
 |zero=>exact h
 |succ k=>exact dotT_length _ _
theorem stC_rd {w:World}{g gt:Nat}{v:List Byte}(h:Row w g 301 (stC gt v)):RdB w (some ⟨g,1,none⟩) v:=⟨fun _=>rfl,fun i hi=>by
 have:=row_cell h (1+i)
 rw [stC,Nat.add_comm 1 i,List.getElem?_cons_succ,map8_at v hi,Nat.add_comm i 1]at this
 rw [show((some (⟨g,1,none⟩:Addr)).getD default).add i=⟨g,1+i,none⟩from by simp [Addr.add],this];rfl⟩
theorem stC_set(gt:Nat)(v x:List Byte)(h:v.length=16):(stC gt v).take 1++x.map v8++(stC gt v).drop (1+16)=stC gt x:=by
 rw [stC,tSC,tZe,show 1+16=16+1 from rfl,dSC,List.drop_of_length_le (by rw [List.length_map];omega),List.append_nil];rfl
def slnV:Value→Nat
 | .slice _ n _=>n
 |_=>0
theorem vwrite_any(g gt:Nat)(l:List (BitVec 64))(hl:l.length=32)(v b:List Byte)(hv:v.length=16)(n:Nat)(hb:(pad b 16).length=16*n)(hbl:b.length≤1000)(p:Option Addr)(c:Nat)(w0 w:World)(R:List Blk)(hr:RdB w p b)(hm:Own w0 w (⟨g,301,stC gt v⟩::R))(hT:Has R ⟨gt,304,l.map v64⟩):
   Calls Tryz.prog 223 #[.pointer (some ⟨g,0,none⟩), .slice p b.length c] w fun e w'=>e= .returned (.tuple #[])∧∃gp,Own w0 w' (⟨g,301,stC gt (wrF l v (pad b 16) n)⟩::⟨gp,5,(pad b 16).map v8⟩::R):=by
 have P1:=hid (padded_new b p c 16 w hr (by omega) (by omega) (by omega))
 have HT:=hid hT
 have HV:=hid hv
 have HB:=hid hb
 have HLW:=hid fun k=>wrF_length l v (pad b 16) k hv
 have HW:=hid fun k=>(show wrF l v (pad b 16) (k+1)=dotT l (blk (xorL (wrF l v (pad b 16) k) ((pad b 16).drop (16*k))))from rfl)
 have H0:Hid (wrF l v (pad b 16) 0=v):=hid rfl
 have DT:=hid fun (wx:World)(x:List Byte)(hx:x.length=16)(h:Row wx gt 304 (l.map v64))=>ritdot_any gt l hl x hx wx h
 have XO:=hid fun (wx:World)(x y:List Byte)(hx:x.length=16)(hy:y.length≤1100)(q r:Option Addr)(d e:Nat)(h1:RdB wx q x)(h2:RdB wx r y)=>(show GivesR Tryz.prog 81 #[.slice q 16 d, .slice r y.length e] wx (BytesS (xorL x y))from by
   have:=xor_any x y q r d e wx h1 h2 (by omega) (by omega);rwa [hx]at this)
 have pl:(pad b 16).length≤1016:=by
   have:=roomN_lt b.length 16
   simp only [pad,List.length_append,List.length_replicate]
   omega
 generalize pad b 16=B at*
 clear hT hl hr hb hv
 go_enter Tryz.func223,Tryz.ntmps223
 go_wp2_with fail
 refine wp_scope_goto 0 (fun a_ w_=>∃(k L gp:Nat)(q:Option Addr)(u2 u3 u4 u5 u6 u7 u8 u9 u10 u11 u12 u13 u14 u15 u16 u17 u18 u19 u20 u21 u22 u23 u24 u25 u26 u27:Value),a_={tmps:= #[(.pointer (some ⟨g,0,none⟩)),(.slice q L L),u2,u3,u4,u5,u6,u7,u8,u9,u10,u11,u12,u13,u14,u15,u16,u17,u18,u19,u20,u21,u22,u23,u24,u25,u26,u27],defers:=[]}∧L=16*(n-k)∧k≤n∧(k<n→q=some ⟨gp,16*k,none⟩)∧Own w0 w_ (⟨g,301,stC gt (wrF l v B k)⟩::⟨gp,5,B.map v8⟩::R)) (fun a_ _=>slnV (a_.tmps.getD 1 undef)) rfl ?_ ?_
 · clear hm
   rintro a' w ⟨k,L,gp,q,u2,u3,u4,u5,u6,u7,u8,u9,u10,u11,u12,u13,u14,u15,u16,u17,u18,u19,u20,u21,u22,u23,u24,u25,u26,u27,rfl,⟨hL,hk,hq,hm⟩⟩
   by_cases hlt:k<n
   · obtain rfl:=hq hlt
     clear hq
     have lV:=HLW.out k
     have EW:=hid (HW.out k)
     have HLL:=hid hL
     have e0:((L:Int)==0)=false:=by rw [beq_eq_false_iff_ne];omega
     have e1:¬(L:Int)=0:=by omega
     have e2:(16:Int)≤(L:Int):=by omega
     have LB:Hid ((B.drop (16*k)).length=L):=hid (by rw [List.length_drop,HB.out];omega)
     have lX:(xorL (wrF l v B k) (B.drop (16*k))).length=16:=by rw [xorL_length,lV,LB.out];omega
     generalize wrF l v B k=V at*
     have RB:=hid fun wx (hx:Ext w wx)=>(show RdB wx (some ⟨gp,16*k,none⟩) (B.drop (16*k))from by
       have:=((hm.ext hx).rdB (g:=gp) (l:=B) (.tl .hd)).sub (16*k) L (by rw [HB.out];omega) (by omega)
       rw [List.take_of_length_le (by rw [LB.out];exact Nat.le_refl _)]at this
       rwa [show((some (⟨gp,0,none⟩:Addr)).getD default).add (16*k)=⟨gp,16*k,none⟩from by simp [Addr.add];omega]at this)
     have RV:=hid fun wx (hx:Ext w wx)=>stC_rd ((hm.ext hx).row (g:=g) .hd)
     have RT:=hid fun wx (hx:Ext w wx)=>(hm.ext hx).row (.tl (.tl HT.out))
     generalize hY:B.drop (16*k)=Y at*
     generalize hX:xorL V Y=X at*
     have c1:=fun wx (hx:Ext w wx)=>(show GivesR Tryz.prog 81 #[.slice (some ⟨g,1,none⟩) 16 16, .slice (some ⟨gp,16*k,none⟩) L L] wx (BytesS X)from by
       have:=XO.out wx V Y lV (by rw [LB.out];have:=HB.out;have:=HLL.out;omega) _ _ 16 L (RV.out wx hx) (RB.out wx hx)
       rwa [LB.out,hX]at this)
     have C2:=hid fun (wx:World)(p:Option Addr)(c:Nat)(h:RdB wx p X)=>(show Gives Tryz.prog 69 #[.slice p X.length c] wx (A8 (blk X))from oblock_any X p c wx h)
     have c3:=fun wx (hx:Ext w wx)=>DT.out wx (blk X) (blk_length _) (RT.out wx hx)
     have SE:=hid (stC_set gt V (dotT l (blk X)) lV)
     have lD:=dotT_length l (blk X)
     have KF:=hid (show L=16*(n-k)from HLL.out)
     clear hX hY hL e1 lX
     have e1:¬(L:Int)=0:=by omega
     go_wp2_with fail
     refine rgE 15 28 ?_
     simp only [zTa]
     repeat (first
         |(apply walk_is rfl rfl rfl;(intro wx hwx;exact zL (hm.ext hwx));(simp only [zPu];rfl))
         | (apply walk_some (BytesS X) 21 (BytesS.stable _) rfl rfl rfl rfl
            · (intro wx hwx;go_simp;with_reducible exact gives_callR (c1 wx hwx)))
         | (apply walk_from (T:=[(21,BytesS X)]) rfl rfl
            · (intro wx hwx;simp only [withS];(rintro x ⟨p,c,rfl,hlc,hb'⟩);refine⟨rfl, ?_⟩;go_simp;with_reducible exact gives_call (C2.out wx p c hb'))
            · (simp only [zPu];rfl))
         | (apply walk_is rfl rfl rfl
            · (intro wx hwx;go_simp;(try go_bits);first|exact gives_same|exact gives_skip|with_reducible exact gives_call (c3 wx hwx))
            · (simp only [zPu];rfl))
         | (apply walk_not rfl rfl rfl
            · (simp only [zPu];rfl)))
     intro wz hwz
     simp only [zZi]
     repeat (first|rw [fin_is]|(rw [fin_cons];intro _ _))
     rw [fin_nil]
     try (replace hm:=hm.ext hwz)
     simp only [zPu]
     clear c1 c3
     obtain⟨D,hD⟩:∃D,D=dotT l (blk X):=⟨_,rfl⟩
     rw [←hD]at SE lD EW⊢
     clear hD
     have dl1:=Nat.le_of_eq lD
     have dl2:=Nat.le_of_eq lD.symm
     by_cases h16:L=16
     · subst h16
       go_wp2_with (first|((with_reducible apply wq_stA hm);exact rfl;infer_instance;exact rfl;exact rfl;(focus (repeat first|exact .hd|assumption|apply Swap.tl);done);(exact SE.out);(exact(by rw [List.length_map];exact lD));(exact(by simp [stC];omega));(exact(one_map _));clear hm;intro w hm))
       go_step3
       exact⟨rfl,⟨_,_,_,_,_,_,_,_,_,_,_,_,_,_,_,_,_,_,_,_,_,_,_,_,_,_,_,_,_,_,rfl,⟨by have:=KF.out;show 0=16*(n-(k+1));omega,by show k+1≤n;omega,fun h=>absurd (show k+1<n from h) (by have:=KF.out;omega),by show Own w0 w (⟨g,301,stC gt (wrF l v B (k+1))⟩::_);rw [EW.out];exact hm⟩⟩,by simp [slnV]⟩
     · have f1:¬L-16=0:=by omega
       have f2:¬(L:Int)-16=0:=by omega
       go_wp2_with (first|((with_reducible apply wq_stA hm);exact rfl;infer_instance;exact rfl;exact rfl;(focus (repeat first|exact .hd|assumption|apply Swap.tl);done);(exact SE.out);(exact(by rw [List.length_map];exact lD));(exact(by simp [stC];omega));(exact(one_map _));clear hm;intro w hm))
       go_step3
       exact⟨rfl,⟨_,_,_,_,_,_,_,_,_,_,_,_,_,_,_,_,_,_,_,_,_,_,_,_,_,_,_,_,_,_,rfl,⟨by have:=KF.out;show L-16=16*(n-(k+1));omega,by show k+1≤n;omega,fun h=>by show some (⟨gp,16*k+16,none⟩:Addr)=some ⟨gp,16*(k+1),none⟩;rw [show 16*(k+1)=16*k+16 from by omega],by show Own w0 w (⟨g,301,stC gt (wrF l v B (k+1))⟩::_);rw [EW.out];exact hm⟩⟩,by simp [slnV];omega⟩
   · obtain rfl:k=n:=by omega
     obtain rfl:L=0:=by omega
     clear hL hq hk hlt
     go_wp2_with fail
     simp only [Exit.jump]
     refine bodyPost_ret (results_none rfl _ _ _) rfl ?_
     exact⟨rfl,_,hm⟩
 · intro hp
   go_wp2_with fail
   refine(P1.out).mono ?_
   rintro e w ⟨gp,rfl,hg,hrp,hx⟩
   have hm2:=(hm.push hx hg hrp).perm (List.Perm.swap _ _ _)
   rw [←H0.out]at hm2
   clear hm hx hg hrp
   have hm:=hm2
   clear hm2
   go_wp2_with fail
   go_step3
   rename_i hK
   exact hK _ _ (hp _ _ ⟨_,_,_,_,_,_,_,_,_,_,_,_,_,_,_,_,_,_,_,_,_,_,_,_,_,_,_,_,_,_,rfl,⟨by show B.length=16*(n-0);rw [HB.out];rfl,by show 0≤n;omega,fun _=>rfl,hm⟩⟩)
def vsmL(h b:List Byte)(n:Nat):List Byte:=wrF (mkT h) (zer 16) (pad b 16) n
theorem vsmL_length(h b:List Byte)(n:Nat):(vsmL h b n).length=16:=wrF_length _ _ _ _ zer_length
theorem vsum_any(h b:List Byte)(hh:h.length=16)(n:Nat)(hb:(pad b 16).length=16*n)(hbl:b.length≤1000)(p:Option Addr)(c:Nat)(w0:World)(hr:RdB w0 p b):Gives Tryz.prog 219 #[A8 h, .slice p b.length c] w0 (A8 (vsmL h b n)):=by
 unfold Gives
 have hm:=Own.start w0
 have N1:=hid fun w=>vnew_any h hh w
 have HR:=hid fun w (hx:Ext w0 w)=>hr.ext hx
 have lV:=vsmL_length h b n
 have WR:=hid fun (g gt:Nat)(w:World)(R:List Blk)(hrw:RdB w p b)(hm:Own w0 w (⟨g,301,stC gt (zer 16)⟩::R))(hT:Has R ⟨gt,304,(mkT h).map v64⟩)=>(show Calls Tryz.prog 223 #[.pointer (some ⟨g,0,none⟩), .slice p b.length c] w fun e w'=>e= .returned (.tuple #[])∧∃gp,Own w0 w' (⟨g,301,stC gt (vsmL h b n)⟩::⟨gp,5,(pad b 16).map v8⟩::R)from vwrite_any g gt (mkT h) (mkT_length h) (zer 16) b zer_length n hb hbl p c w0 w R hrw hm hT)
 generalize vsmL h b n=V at*
 generalize pad b 16=B at*
 have VV:=hid fun (g gt:Nat)(w:World)(hr:Row w g 301 (stC gt V))=>vvalue_any g gt V lV w hr
 have h1:=Nat.le_of_eq hh
 have h2:=Nat.le_of_eq hh.symm
 have h3:=Nat.le_of_eq lV
 have h4:=Nat.le_of_eq lV.symm
 clear hh hr hb
 go_enter Tryz.func219,Tryz.ntmps219
 go_wp2_with (first|((with_reducible show qLd);refine zB hm ?_)|((first|((with_reducible show qAl);refine zG hm ?_)|((with_reducible show qBx);refine zH hm ?_));clear hm;intro gx_;intro w hm))
 refine(N1.out _).mono ?_
 rintro e w ⟨g,gt,rfl,hg,hgt,hne,hr,hrt,hx⟩
 replace hm:=hm.push2 hx hgt hrt hg hr hne
 clear hx hgt hrt hg hr hne
 go_wp2_with fail
 refine(WR.out g gt _ _ (HR.out _ hm.x) hm .hd).mono ?_
 rintro e w ⟨rfl,gp,hm1⟩
 replace hm:=hm1
 clear hm1
 go_wp2_with (first|(go_at_call 224;(with_reducible refine(VV.out g gt _ (hm.row .hd)).mono ?_);rintro e_ w ⟨rfl,hx_⟩;replace hm:=hm.ext hx_;clear hx_)|((with_reducible show qSt);refine zE hm ?_;clear hm;intro w hm))
 refine rtO hm rfl rfl ⟨rfl,hm.x⟩
def lnB(n:Nat)(whole:Bool):List Byte:=putL (BitVec.ofNat 64 (n*16+if whole then 2 else 3)) 8++putL (BitVec.ofNat 64 (n/1152921504606846976)) 8
theorem lnB_length(n:Nat)(whole:Bool):(lnB n whole).length=16:=by rw [lnB,List.length_append,putL_length,putL_length]
theorem or_low(n:Nat)(h:n<1000):bits BinOp.or IntKind.u64 ((n:Int)*16) 3=(n:Int)*16+3∧bits BinOp.or IntKind.u64 ((n:Int)*16) 2=(n:Int)*16+2:=by
 have:∀k:Fin 1000,bits BinOp.or IntKind.u64 ((k.val:Int)*16) 3=(k.val:Int)*16+3∧bits BinOp.or IntKind.u64 ((k.val:Int)*16) 2=(k.val:Int)*16+2:=by decide+kernel
 exact this ⟨n,h⟩
theorem vlenG(n:Nat)(whole:Bool)(hn:n<1000)(w0:World):Gives Tryz.prog 225 #[.int .i64 (n:Int), .bool whole] w0 (A8 (lnB n whole)):=by
 unfold Gives
 have hm:=Own.start w0
 obtain⟨o3,o2⟩:=or_low n hn
 have i0:(0:Int)≤(n:Int):=by omega
 have i1:(n:Int)≤1000:=by omega
 have lL:=lnB_length n whole
 have l1:=Nat.le_of_eq lL
 have l2:=Nat.le_of_eq lL.symm
 cases whole with
 | false=>
   have BH:=hid fun (w:World)=>(show Gives Tryz.prog 186 #[.agg #[.int .u64 ((n:Int)*16+3), .int .u64 ((n:Int)/1152921504606846976)]] w (A8 (lnB n false))from by
     have:=bytes_any (BitVec.ofNat 64 (n*16+3)) (BitVec.ofNat 64 (n/1152921504606846976)) w
     rw [WV,v64_nat _ (by omega),v64_nat _ (by omega),show((n*16+3:Nat):Int)=(n:Int)*16+3 from by omega,show((n/1152921504606846976:Nat):Int)=(n:Int)/1152921504606846976 from by omega]at this
     exact this)
   generalize lnB n false=B at*
   go_enter Tryz.func225,Tryz.ntmps225
   go_wp2_with (first|(go_at_call 186;(with_reducible refine(BH.out _).mono ?_);rintro e_ w ⟨rfl,hx_⟩;replace hm:=hm.ext hx_;clear hx_)|((with_reducible show qSt);refine zE hm ?_;clear hm;intro w hm)|(((with_reducible show qAl);refine zG hm ?_);clear hm;intro gx_;intro w hm))
   refine rtO hm rfl rfl ⟨rfl,hm.x⟩
 | true=>
   have BH:=hid fun (w:World)=>(show Gives Tryz.prog 186 #[.agg #[.int .u64 ((n:Int)*16+2), .int .u64 ((n:Int)/1152921504606846976)]] w (A8 (lnB n true))from by
     have:=bytes_any (BitVec.ofNat 64 (n*16+2)) (BitVec.ofNat 64 (n/1152921504606846976)) w
     rw [WV,v64_nat _ (by omega),v64_nat _ (by omega),show((n*16+2:Nat):Int)=(n:Int)*16+2 from by omega,show((n/1152921504606846976:Nat):Int)=(n:Int)/1152921504606846976 from by omega]at this
     exact this)
   generalize lnB n true=B at*
   go_enter Tryz.func225,Tryz.ntmps225
   go_wp2_with (first|(go_at_call 186;(with_reducible refine(BH.out _).mono ?_);rintro e_ w ⟨rfl,hx_⟩;replace hm:=hm.ext hx_;clear hx_)|((with_reducible show qSt);refine zE hm ?_;clear hm;intro w hm)|(((with_reducible show qAl);refine zG hm ?_);clear hm;intro gx_;intro w hm))
   refine rtO hm rfl rfl ⟨rfl,hm.x⟩
def vTl(m:List Byte):List Byte:=if m.length%16=0 then m else marked m 1#8 16
def vEnc(t m:List Byte):List Byte:=lnB t.length (decide (m.length%16=0))++(pad t 16++vTl m)
theorem marked_len(m:List Byte)(b:Byte):(marked m b 16).length≤m.length+17:=by
 have:=roomN_lt (m.length+1) 16
 simp only [marked,pad,List.length_append,List.length_replicate,List.length_singleton]
 omega
theorem vTl_length(m:List Byte):(vTl m).length≤m.length+17:=by
 unfold vTl;split
 · omega
 · exact marked_len _ _
theorem pad_len(m:List Byte):(pad m 16).length≤m.length+16:=by
 have:=roomN_lt m.length 16
 simp only [pad,List.length_append,List.length_replicate]
 omega
section
variable {P:Program} {ops:Array Oper} {Q:Exit→Act→World→Prop} {rest:List Oper} {dst:Option Tmp} {ty:TypeId} {pos:String} {aft:Array Edge} {gd:Option (Nat×Bool)} {a:Act} {w0 w:World} {L:List Blk} {T e:TypeId}
theorem wq_bs3x {u0 u1 u2:Value}{x0 x1 x2:Operand}{cs:List Value}(hb:∀w,(Instr.buildSlice T 3 #[(0,u0),(1,u1),(2,u2)]).run P w= .ok (.slice (some ⟨w.heap.size,0,none⟩) 3 3) (w.alloc (.cells cs.toArray e)))(hm:Own w0 w L)(hgd:Region.wanted (Oper.mk dst (.buildSlice T 3 #[(0,x0),(1,x1),(2,x2)]) ty pos aft gd) (yielded ops a.tmps)=true)(hx0:a.eval x0=u0)(hx1:a.eval x1=u1)(hx2:a.eval x2=u2)(hr:∀g w',Own w0 w' (⟨g,e,cs⟩::L)→Ext w w'→wpList P ops Q rest (a.put dst (.slice (some ⟨g,0,none⟩) 3 3)) w'):wpList P ops Q ((Oper.mk dst (.buildSlice T 3 #[(0,x0),(1,x1),(2,x2)]) ty pos aft gd)::rest) a w:=
 wpList_want hgd fun K hK=>by
   unfold Oper.wp execOp
   simp [hx0,hx1,hx2,hb,Sem.run_bind,Result.andThen_ok,Sem.run_pure]
   exact hK _ _ (hr _ _ (hm.alloc e cs) (Ext.alloc (Ext.refl _) _))
end
theorem venc_any(t m:List Byte)(ht:t.length<1000)(hml:m.length≤100000)(p q:Option Addr)(c d:Nat)(hc:t.length≤c)(hd:m.length≤d)(w0:World)(hr:RdB w0 p t)(hq:RdB w0 q m):
   Calls Tryz.prog 220 #[.slice p t.length c, .slice q m.length d] w0 fun e w'=>∃v M R,e= .returned v∧Own w0 w' (M++R)∧SlO M 5 1 v (vEnc t m).length ((vEnc t m).map v8):=by
 have hm:=Own.start w0
 have PD:=hid fun w (hx:Ext w0 w)=>padded_any t p c 16 w (hr.ext hx) (by omega) (by omega) (by omega)
 have lpt:=pad_len t
 have i0:(m.length:Int).tmod 16=((m.length%16:Nat):Int):=rfl
 by_cases h0:m.length%16=0
 · have lLB:=lnB_length t.length true
   have EV:vEnc t m=[lnB t.length true,pad t 16,m].flatten:=by simp [vEnc,vTl,h0]
   have LN:=hid fun w=>vlenG t.length true ht w
   have CC:=hid fun (w:World)(p:Option Addr)(h:RdR w p [lnB t.length true,pad t 16,m])=>(show Calls Tryz.prog 43 #[.slice p 3 3] w fun e w'=>∃v M,e= .returned v∧Own w w' (M++[])∧SlO M 5 1 v (vEnc t m).length ((vEnc t m).map v8)from by
     have:=concat_any [lnB t.length true,pad t 16,m] p 3 w h (by simp) (by simp;omega)
     rwa [←EV]at this)
   generalize lnB t.length true=LB at*
   generalize vEnc t m=EE at*
   rw [h0]at i0
   have b0:(((0:Nat):Int)==0)=true:=rfl
   have HQ:=hid hq
   clear EV hr h0 hq
   go_enter Tryz.func220,Tryz.ntmps220
   go_wp2_with (first|(go_at_call 225;(with_reducible refine(LN.out _).mono ?_);rintro e_ w ⟨rfl,hx_⟩;replace hm:=hm.ext hx_;clear hx_)|((with_reducible show qSt);refine zE hm ?_;clear hm;intro w hm)|(((with_reducible show qAl);refine zG hm ?_);clear hm;(first|(have hx_:=g1;clear hx_;(first|(have hx_:=g2;clear hx_;intro gx_)|intro g2))|intro g1);intro w hm))
   have hx0:=hm.x
   have hmA:=hm
   have a1:=fun wx (hwx:Ext w wx)=>PD.out wx (hx0.trans hwx)
   refine region_new 4 (fun w'=>Ext _ w') 25 (by kernel_rfl) (by kernel_rfl) rfl (fun _ _ h k=>h.trans k) (drew_ext _) ?_
   simp only [zTa]
   repeat (first
       | (apply walk_some (BytesS (pad t 16)) 21 (BytesS.stable _) rfl rfl rfl rfl
          · (intro wx hwx;go_simp;with_reducible exact gives_callR (a1 wx hwx)))
       | (apply walk_is rfl rfl rfl
          · (intro wx hwx;go_simp;(try go_bits);first|exact gives_same|exact gives_skip)
          · (simp only [zPu];rfl))
       | (apply walk_not rfl rfl rfl
          · (simp only [zPu];rfl)))
   intro wz hwz
   simp only [zZi]
   repeat rw [fin_is]
   rw [fin_cons];intro x21 hx21
   repeat rw [fin_is]
   rw [fin_nil];intro hap
   simp only [zPu]at hap⊢
   obtain⟨p21,c21,rfl,hc21,hr21⟩:=hx21
   clear hm a1 hap
   have hm:=hmA.ext hwz
   clear hmA hx0
   have HR21:=hid hr21
   have HT:=hid (HQ.out.ext hm.x)
   have BS:=hid fun g=>bs_s3 (some ⟨g,0,none⟩) p21 q 16 16 (pad t 16).length c21 m.length d
   have RR:=hid fun (g g2:Nat)(ty:TypeId)(w:World)(hx:Ext wz w)(h:Row w g ty [.slice (some ⟨g2,0,none⟩) 16 16, .slice p21 (pad t 16).length c21, .slice q m.length d])(h2:RdB w (some ⟨g2,0,none⟩) LB)=>(rdR3 (a:=LB) (b:=pad t 16) (x:=m) (by rw [lLB];exact h) h2 (hr21.ext hx) (HT.out.ext hx) (by omega) hc21 hd (by unfold maxLen;omega) (by unfold maxLen;omega) (by unfold maxLen;omega))
   have h5:=Nat.le_of_eq lLB
   have h6:=Nat.le_of_eq lLB.symm
   clear hr21
   go_wp2_with (first|((with_reducible apply wq_bs3x (BS.out _) hm);exact rfl;exact rfl;exact rfl;exact rfl;clear hm;intro gb w hm hxe)|(go_at_call 43;(with_reducible refine(CC.out w _ (RR.out gb g1 _ _ hxe (hm.row .hd) (hm.rdB (g:=g1) (l:=LB) (by repeat (first|exact Has.hd|assumption|apply Has.tl|apply Has.app))))).mono ?_);rintro e_ w ⟨v2,M2,rfl,hm1,hs2⟩;rw [List.append_nil]at hm1;replace hm:=hm.join hm1;clear hm1))
   go_ret
   exact⟨_,M2,_,rfl,hm,hs2⟩
 · have lLB:=lnB_length t.length false
   have lMK:=marked_len m 1#8
   have EV:vEnc t m=[lnB t.length false,pad t 16,marked m 1#8 16].flatten:=by simp [vEnc,vTl,h0]
   have LN:=hid fun w=>vlenG t.length false ht w
   have MK:=hid fun w (hx:Ext w0 w)=>(show GivesR Tryz.prog 139 #[.slice q m.length d, .int .u8 1, .int .i64 16] w (BytesS (marked m 1#8 16))from marked_any m q d 1#8 16 w (hq.ext hx) (by omega) (by omega) (by omega))
   have CC:=hid fun (w:World)(p:Option Addr)(h:RdR w p [lnB t.length false,pad t 16,marked m 1#8 16])=>(show Calls Tryz.prog 43 #[.slice p 3 3] w fun e w'=>∃v M,e= .returned v∧Own w w' (M++[])∧SlO M 5 1 v (vEnc t m).length ((vEnc t m).map v8)from by
     have:=concat_any [lnB t.length false,pad t 16,marked m 1#8 16] p 3 w h (by simp) (by simp;omega)
     rwa [←EV]at this)
   generalize lnB t.length false=LB at*
   generalize vEnc t m=EE at*
   obtain⟨X,hX⟩:=exq (marked m 1#8 16)
   rw [←hX]at MK CC lMK
   obtain⟨r,hr16⟩:∃r,r=m.length%16:=⟨_,rfl⟩
   rw [←hr16]at h0 i0
   have b0:((r:Int)==0)=false:=by rw [beq_eq_false_iff_ne];omega
   have b1:¬(r:Int)=0:=by omega
   clear EV hr hq hX hr16
   go_enter Tryz.func220,Tryz.ntmps220
   go_wp2_with (first|(go_at_call 139;(with_reducible refine(MK.out _ hm.x).mono ?_);rintro e_ w ⟨v1,rfl,⟨p1,c1,rfl,hc1,hr1⟩,hx_⟩;replace hm:=hm.ext hx_;have HR1:=hid hr1;clear hr1 hx_)|(go_at_call 225;(with_reducible refine(LN.out _).mono ?_);rintro e_ w ⟨rfl,hx_⟩;replace hm:=hm.ext hx_;clear hx_)|((with_reducible show qSt);refine zE hm ?_;clear hm;intro w hm)|(((with_reducible show qAl);refine zG hm ?_);clear hm;(first|(have hx_:=g1;clear hx_;(first|(have hx_:=g2;clear hx_;intro gx_)|intro g2))|intro g1);intro w hm))
   have hx0:=hm.x
   have hmA:=hm
   have a1:=fun wx (hwx:Ext w wx)=>PD.out wx (hx0.trans hwx)
   refine region_new 4 (fun w'=>Ext _ w') 25 (by kernel_rfl) (by kernel_rfl) rfl (fun _ _ h k=>h.trans k) (drew_ext _) ?_
   simp only [zTa]
   repeat (first
       | (apply walk_some (BytesS (pad t 16)) 21 (BytesS.stable _) rfl rfl rfl rfl
          · (intro wx hwx;go_simp;with_reducible exact gives_callR (a1 wx hwx)))
       | (apply walk_is rfl rfl rfl
          · (intro wx hwx;go_simp;(try go_bits);first|exact gives_same|exact gives_skip)
          · (simp only [zPu];rfl))
       | (apply walk_not rfl rfl rfl
          · (simp only [zPu];rfl)))
   intro wz hwz
   simp only [zZi]
   repeat rw [fin_is]
   rw [fin_cons];intro x21 hx21
   repeat rw [fin_is]
   rw [fin_nil];intro hap
   simp only [zPu]at hap⊢
   obtain⟨p21,c21,rfl,hc21,hr21⟩:=hx21
   clear hm a1 hap
   have hm:=hmA.ext hwz
   clear hmA hx0
   have HR21:=hid hr21
   have HT:=hid (HR1.out.ext hwz)
   have BS:=hid fun g=>bs_s3 (some ⟨g,0,none⟩) p21 p1 16 16 (pad t 16).length c21 X.length c1
   have RR:=hid fun (g g2:Nat)(ty:TypeId)(w:World)(hx:Ext wz w)(h:Row w g ty [.slice (some ⟨g2,0,none⟩) 16 16, .slice p21 (pad t 16).length c21, .slice p1 X.length c1])(h2:RdB w (some ⟨g2,0,none⟩) LB)=>(rdR3 (a:=LB) (b:=pad t 16) (x:=X) (by rw [lLB];exact h) h2 (hr21.ext hx) (HT.out.ext hx) (by omega) hc21 hc1 (by unfold maxLen;omega) (by unfold maxLen;omega) (by unfold maxLen;omega))
   have h5:=Nat.le_of_eq lLB
   have h6:=Nat.le_of_eq lLB.symm
   clear hr21
   go_wp2_with (first|((with_reducible apply wq_bs3x (BS.out _) hm);exact rfl;exact rfl;exact rfl;exact rfl;clear hm;intro gb w hm hxe)|(go_at_call 43;(with_reducible refine(CC.out w _ (RR.out gb g1 _ _ hxe (hm.row .hd) (hm.rdB (g:=g1) (l:=LB) (by repeat (first|exact Has.hd|assumption|apply Has.tl|apply Has.app))))).mono ?_);rintro e_ w ⟨v2,M2,rfl,hm1,hs2⟩;rw [List.append_nil]at hm1;replace hm:=hm.join hm1;clear hm1))
   go_ret
   exact⟨_,M2,_,rfl,hm,hs2⟩
def vhL(h t m:List Byte):List Byte:=vsmL h (vEnc t m) ((pad (vEnc t m) 16).length/16)
theorem vhL_length(h t m:List Byte):(vhL h t m).length=16:=vsmL_length _ _ _
theorem pad_whole(m:List Byte):(pad m 16).length=16*((pad m 16).length/16):=by
 have:=room_is m.length 16 (by omega)
 rw [show(pad m 16).length=m.length+roomN m.length 16 from by simp [pad]]
 omega
theorem vhash_any(h t m:List Byte)(hh:h.length=16)(ht:t.length≤500)(hml:m.length≤420)(p q:Option Addr)(c d:Nat)(hc:t.length≤c)(hd:m.length≤d)(w0:World)(hr:RdB w0 p t)(hq:RdB w0 q m):
   Gives Tryz.prog 217 #[A8 h, .slice p t.length c, .slice q m.length d] w0 (A8 (vhL h t m)):=by
 unfold Gives
 have hm:=Own.start w0
 have lE:(vEnc t m).length≤1000:=by
   have:=pad_len t
   have:=vTl_length m
   rw [vEnc,List.length_append,List.length_append,lnB_length]
   omega
 have EN:=hid fun w (hx:Ext w0 w)=>(show GivesR Tryz.prog 220 #[.slice p t.length c, .slice q m.length d] w (BytesS (vEnc t m))from by
   refine Calls.mono (venc_any t m (by omega) (by omega) p q c d hc hd w (hr.ext hx) (hq.ext hx)) ?_
   rintro e w' ⟨v,M,R,rfl,hm1,hs⟩
   obtain⟨q,d,hv,hnd,_⟩:=hs.cells hm1
   subst hv
   exact⟨_,rfl,⟨q,d,rfl,hnd,slo_rdZ hs hm1⟩,hm1.x⟩)
 have SU:=hid fun w p c (hr:RdB w p (vEnc t m))=>(show Gives Tryz.prog 219 #[A8 h, .slice p (vEnc t m).length c] w (A8 (vhL h t m))from vsum_any h (vEnc t m) hh _ (pad_whole _) lE p c w hr)
 have lH:=vhL_length h t m
 generalize vhL h t m=H at*
 generalize vEnc t m=E at*
 have h1:=Nat.le_of_eq hh
 have h2:=Nat.le_of_eq hh.symm
 have h3:=Nat.le_of_eq lH
 have h4:=Nat.le_of_eq lH.symm
 obtain⟨EL,hEL⟩:=exq (E.length)
 clear hr hq hh lH lE
 go_enter Tryz.func217,Tryz.ntmps217
 go_wp2_with (first|((first|((with_reducible show qAl);refine zG hm ?_)|((with_reducible show qBx);refine zH hm ?_));clear hm;intro gx_;intro w hm))
 have hx0:=hm.x
 have c1:=fun wx (hwx:Ext w wx)=>EN.out wx (hx0.trans hwx)
 refine rgE 5 12 ?_
 simp only [zTa]
 repeat (first
     | (apply walk_some (BytesS E) 10 (BytesS.stable _) rfl rfl rfl rfl
        · (intro wx hwx;go_simp;with_reducible exact gives_callR (c1 wx hwx)))
     | (apply walk_from (T:=[(10,BytesS E)]) rfl rfl
        · (intro wx hwx;simp only [withS];(rintro x ⟨p,c,rfl,hlc,hb'⟩);refine⟨rfl, ?_⟩;go_simp;with_reducible exact gives_call (SU.out wx p c hb'))
        · (simp only [zPu];rfl))
     | (apply walk_is rfl rfl rfl
        · (intro wx hwx;first|((with_reducible show qGl);exact zK (hm.ext hwx))|(go_simp;(try go_bits);first|exact gives_same|exact gives_skip))
        · (simp only [zPu];rfl))
     | (apply walk_not rfl rfl rfl
        · (simp only [zPu];rfl)))
 intro wz hwz
 simp only [zZi]
 repeat (first|rw [fin_is]|(rw [fin_cons];intro _ _))
 rw [fin_nil]
 try (replace hm:=hm.ext hwz)
 simp only [zPu]
 clear c1 hx0
 go_wp2_with (first|((with_reducible show qSt);refine zE hm ?_;clear hm;intro w hm))
 refine rtO hm rfl rfl ⟨rfl,hm.x⟩
def xcB(k0:List Byte)(ks:List (List Byte))(kl s:List Byte)(k:Nat):List Byte:=aesE k0 ks kl (xbL s (BitVec.ofNat 64 (k+1)))
theorem xcB_length(k0:List Byte)(ks:List (List Byte))(kl s:List Byte)(k:Nat):(xcB k0 ks kl s k).length=16:=aesE_length _ _ _ _
def xcL(k0:List Byte)(ks:List (List Byte))(kl s b:List Byte):List Byte:=strL 16 (xcB k0 ks kl s) b
theorem xcL_length(k0:List Byte)(ks:List (List Byte))(kl s b:List Byte):(xcL k0 ks kl s b).length=b.length:=strL_length 16 (by omega) _ (xcB_length _ _ _ _) b
theorem xcryptO(g:Nat)(k0 kl:List Byte)(ks:List (List Byte))(s b:List Byte)(hs:s.length=16)(hb:b.length≤70368744177000)(p:Option Addr)(c:Nat)(w0:World)(h:AesR w0 g k0 ks kl)(hr:RdB w0 p b)(hc:b.length≤c):
   Calls Tryz.prog 218 #[.pointer (some ⟨g,0,none⟩),A8 s, .slice p b.length c] w0 fun e w'=>∃v M R,e= .returned (.tuple #[v, .int .i64 0])∧Own w0 w' (M++R)∧SlO M 5 1 v b.length ((xcL k0 ks kl s b).map v8):=by
 have hm:=Own.start w0
 have EL:=hid (show xcL k0 ks kl s b=strF 16 (xcB k0 ks kl s) b (strN 16 b.length)from rfl)
 have RL:=hid (xcL_length k0 ks kl s b)
 have BK:=hid fun w (hx:Ext w0 w) k=>(show Gives Tryz.prog 221 #[.pointer (some ⟨g,0,none⟩),A8 s,v64 (BitVec.ofNat 64 (k+1))] w (A8 (xcB k0 ks kl s k))from xblock_any g k0 kl ks s hs (BitVec.ofNat 64 (k+1)) w (h.ext hx))
 have lX:=fun k=>xcB_length k0 ks kl s k
 generalize xcL k0 ks kl s b=RES at*
 generalize xcB k0 ks kl s=S at*
 have LX:=hid lX
 have LB:=hid fun k=>strF_length 16 S lX b k
 have E0:=hid (show strF 16 S b 0=[]from rfl)
 have EK:=hid fun k=>(show strF 16 S b (k+1)=strF 16 S b k++xorL (b.drop (16*k)) (S k)from rfl)
 have NL:=hid (strN_le 16 b.length (by omega))
 have NT:=hid fun k (h:k<strN 16 b.length)=>strN_lt 16 b.length k (by omega) h
 generalize strF 16 S b=F at*
 generalize strN 16 b.length=n at*
 have XO:=hid fun (k L e:Nat)(w:World)(q r:Option Addr)(d:Nat)(hL:(b.drop (16*k)).length=L)(h1:RdB w q (b.drop (16*k)))(h2:RdB w r (S k))=>(show GivesR Tryz.prog 81 #[.slice q L e, .slice r 16 d] w (BytesS (xorL (b.drop (16*k)) (S k)))from by
   have:=xor_any (b.drop (16*k)) (S k) q r e d w h1 h2 (by rw [List.length_drop];omega) (by rw [lX];omega)
   rwa [hL,lX]at this)
 have HR:=hid hr
 have LB0:=hid hb
 have HC:=hid hc
 have h1:=Nat.le_of_eq hs
 have h2:=Nat.le_of_eq hs.symm
 clear h hs lX hr
 generalize hBL0:b.length=BL0 at*
 have HBL:=hid hBL0
 clear hBL0
 go_enter Tryz.func218,Tryz.ntmps218
 go_wp2_with (first|(((with_reducible show qBx);refine zH hm ?_);clear hm;(first|(have hx_:=g1;clear hx_;(first|(have hx_:=g2;clear hx_;intro gx_)|intro g2))|intro g1);intro w hm))
 refine wp_scope_goto 0 (fun a_ w_=>∃(k L e o d:Nat)(q r:Option Addr)(i:BitVec 64)(M:List Blk)(u3 u5 u10 u11 u12 u13 u14 u15 u16 u17 u18 u19 u20 u21 u22 u23 u24 u25 u26 u27 u28 u29 u30 u31 u32 u33 u34 u35 u36:Value),a_={tmps:= #[(.pointer (some ⟨g,0,none⟩)),(A8 s),(.slice q L e),u3,(.pointer (some ⟨g1,0,none⟩)),u5,(.slice none 0 0),(.int .i64 0),(.slice r o d),(v64 i),u10,u11,u12,u13,u14,u15,u16,u17,u18,u19,u20,u21,u22,u23,u24,u25,u26,u27,u28,u29,u30,u31,u32,u33,u34,u35,u36],defers:=[]}∧SlO M 5 1 (.slice r o d) o ((F k).map v8)∧Own w0 w_ (M++[⟨g1,132,s.map v8⟩])∧k≤n∧L=BL0-16*k∧L≤e∧i=BitVec.ofNat 64 (k+1)∧(0<L→RdB w0 q (b.drop (16*k)))) (fun a_ _=>slen (a_.tmps.getD 2 undef)) rfl ?_ ?_
 · clear hm
   have key_:∀(P_:Act→World→Prop),(∀(w_:World)(k L e o d:Nat)(q r:Option Addr)(i:BitVec 64)(M:List Blk)(u3 u5 u10 u11 u12 u13 u14 u15 u16 u17 u18 u19 u20 u21 u22 u23 u24 u25 u26 u27 u28 u29 u30 u31 u32 u33 u34 u35 u36:Value),SlO M 5 1 (.slice r o d) o ((F k).map v8)∧Own w0 w_ (M++[⟨g1,132,s.map v8⟩])∧k≤n∧L=BL0-16*k∧L≤e∧i=BitVec.ofNat 64 (k+1)∧(0<L→RdB w0 q (b.drop (16*k)))→P_ {tmps:= #[(.pointer (some ⟨g,0,none⟩)),(A8 s),(.slice q L e),u3,(.pointer (some ⟨g1,0,none⟩)),u5,(.slice none 0 0),(.int .i64 0),(.slice r o d),(v64 i),u10,u11,u12,u13,u14,u15,u16,u17,u18,u19,u20,u21,u22,u23,u24,u25,u26,u27,u28,u29,u30,u31,u32,u33,u34,u35,u36],defers:=[]} w_)→∀(a_:Act)(w_:World),(∃(k L e o d:Nat)(q r:Option Addr)(i:BitVec 64)(M:List Blk)(u3 u5 u10 u11 u12 u13 u14 u15 u16 u17 u18 u19 u20 u21 u22 u23 u24 u25 u26 u27 u28 u29 u30 u31 u32 u33 u34 u35 u36:Value),a_={tmps:= #[(.pointer (some ⟨g,0,none⟩)),(A8 s),(.slice q L e),u3,(.pointer (some ⟨g1,0,none⟩)),u5,(.slice none 0 0),(.int .i64 0),(.slice r o d),(v64 i),u10,u11,u12,u13,u14,u15,u16,u17,u18,u19,u20,u21,u22,u23,u24,u25,u26,u27,u28,u29,u30,u31,u32,u33,u34,u35,u36],defers:=[]}∧SlO M 5 1 (.slice r o d) o ((F k).map v8)∧Own w0 w_ (M++[⟨g1,132,s.map v8⟩])∧k≤n∧L=BL0-16*k∧L≤e∧i=BitVec.ofNat 64 (k+1)∧(0<L→RdB w0 q (b.drop (16*k))))→P_ a_ w_:=
     fun P_ h_ a_ w_ z=>z.elim fun k z=>z.elim fun L z=>z.elim fun e z=>z.elim fun o z=>z.elim fun d z=>z.elim fun q z=>z.elim fun r z=>z.elim fun i z=>z.elim fun M z=>z.elim fun u3 z=>z.elim fun u5 z=>z.elim fun u10 z=>z.elim fun u11 z=>z.elim fun u12 z=>z.elim fun u13 z=>z.elim fun u14 z=>z.elim fun u15 z=>z.elim fun u16 z=>z.elim fun u17 z=>z.elim fun u18 z=>z.elim fun u19 z=>z.elim fun u20 z=>z.elim fun u21 z=>z.elim fun u22 z=>z.elim fun u23 z=>z.elim fun u24 z=>z.elim fun u25 z=>z.elim fun u26 z=>z.elim fun u27 z=>z.elim fun u28 z=>z.elim fun u29 z=>z.elim fun u30 z=>z.elim fun u31 z=>z.elim fun u32 z=>z.elim fun u33 z=>z.elim fun u34 z=>z.elim fun u35 z=>z.elim fun u36 z=>Eq.subst (motive:=fun z_=>P_ z_ w_) z.1.symm (h_ w_ k L e o d q r i M u3 u5 u10 u11 u12 u13 u14 u15 u16 u17 u18 u19 u20 u21 u22 u23 u24 u25 u26 u27 u28 u29 u30 u31 u32 u33 u34 u35 u36 z.2)
   refine key_ _ ?_
   clear key_
   intro w k L e o d q r i M u3 u5 u10 u11 u12 u13 u14 u15 u16 u17 u18 u19 u20 u21 u22 u23 u24 u25 u26 u27 u28 u29 u30 u31 u32 u33 u34 u35 u36
   rintro ⟨hso,hm,hkn,hL,hLe,hiv,hrd⟩
   by_cases h0:L=0
   · have hkn2:k=n:=by
       apply Classical.byContradiction;intro h
       have:=NT.out k (by omega)
       omega
     subst hkn2
     subst h0
     obtain⟨_,_,hv,hnc0,_,_⟩:=hso.cells hm
     cases hv
     have ho:o=BL0:=by
       have h1:=hso.1
       rw [List.length_map,LB.out,Nat.mul_one]at h1
       have:=NL.out
       omega
     subst ho
     rw [←EL.out]at hso
     have HSO:=hid hso
     clear hso hnc0 hL hLe hiv hrd
     go_wp2_with fail
     simp only [Exit.jump]
     go_ret2
     exact⟨_,M,_,rfl,hm,HSO.out⟩
   · have hlt:k<n:=by
       apply Classical.byContradiction;intro h
       have hkn2:k=n:=by omega
       subst hkn2
       have:=NL.out
       omega
     have hrd1:=hid fun wx (hx:Ext w0 wx)=>(hrd (by omega)).ext hx
     have hrd0:=hid (hrd (by omega))
     have lD:(b.drop (16*k)).length=L:=by rw [List.length_drop,HBL.out,hL]
     have XR:=hid fun (wx:World)(r:Option Addr)(d:Nat)(h1:RdB wx q (b.drop (16*k)))(h2:RdB wx r (S k))=>XO.out k L e wx q r d lD h1 h2
     have lXX:(xorL (b.drop (16*k)) (S k)).length=min L 16:=by rw [xorL_length,lD,LX.out]
     have EKK:=hid (EK.out k)
     have BLL:=hid fun wx hx=>BK.out wx hx k
     have FL:=hid (LB.out k)
     have RDN:=hid fun (wx:World)(h:RdB wx q (b.drop (16*k)))(m:Nat)=>(show RdB wx (slP q e m) ((b.drop (16*k)).drop m)from h.slL e m (by rw [lD];exact hLe))
     have EDD:=hid (show(b.drop (16*k)).drop 16=b.drop (16*(k+1))by rw [List.drop_drop,Nat.mul_succ])
     obtain⟨m,hmL⟩:∃m,m=min L 16:=⟨_,rfl⟩
     rw [←hmL]at lXX
     have hm1:m≤L:=by omega
     have HML:=hid hmL
     have LXX:=hid lXX
     have HSO:=hid hso
     have HLE:=hid hLe
     have HL:=hid hL
     have HNK:=hid hlt
     have LXM:=hid (show((xorL (b.drop (16*k)) (S k)).map v8).length=m*1 by rw [List.length_map,lXX,Nat.mul_one])
     have lSK:=LX.out k
     obtain⟨X,hX⟩:∃X,X=xorL (b.drop (16*k)) (S k):=⟨_,rfl⟩
     rw [←hX]at XR EKK LXX LXM
     obtain⟨SK,hSK⟩:=exq (S k)
     rw [←hSK]at XR BLL lSK
     have hfit:(o+m)*(1+1)≤140737488355328:=by
       have h1:=hso.1
       rw [List.length_map,FL.out,Nat.mul_one]at h1
       omega
     have HFIT:=hid hfit
     obtain⟨D0,hD0⟩:=exq (b.drop (16*k))
     rw [←hD0]at XR RDN hrd1 hrd0 EDD
     have e0:((L:Int)==0)=false:=by rw [beq_eq_false_iff_ne];omega
     have e1:¬(L:Int)=0:=by omega
     have lK1:=Nat.le_of_eq lSK
     have lK2:=Nat.le_of_eq lSK.symm
     subst hiv
     clear hso hLe hrd lD lXX hX hSK hD0 hfit hL hmL
     go_wp2_with (first|(go_at_call 221;(with_reducible refine(BLL.out _ hm.x).mono ?_);rintro e_ w ⟨rfl,hx_⟩;replace hm:=hm.ext hx_;clear hx_)|((with_reducible show qLd);refine zB hm ?_)|((with_reducible show qSt);refine zE hm ?_;clear hm;intro w hm)|(((with_reducible show qAl);refine zG hm ?_);clear hm;(first|(have hx_:=g1;clear hx_;(first|(have hx_:=g2;clear hx_;intro gx_)|intro g2))|intro g1);intro w hm))
     refine(XR.out _ _ _ (hrd1.out _ hm.x) (hm.rdB (l:=SK) .hd)).mono ?_
     rintro e_ w ⟨x,rfl,⟨px,cx,rfl,hcx,hbx⟩,hx_⟩
     replace hm:=hm.ext hx_
     have HBX:=hid hbx
     clear hx_ hbx
     rw [LXX.out]at hcx⊢
     go_wp2_with (first|((with_reducible show wpList _ _ _ (Oper.mk _ (Op.call _) _ _ _ _::_) _ _);refine wplO_app (M:=M) (R:=_) (ds:=X.map v8) (hm.perm (List.perm_middle.symm)) HSO.out rfl rfl rfl rfl Tryz.underlying22 LXM.out (cells_b HBX.out) (one_map _) HFIT.out ?_;clear hm;intro v1 w M1 hm hs1;obtain⟨p_v1,c_v1,rfl⟩:=hs1.form;replace hm:=hm.perm (List.perm_middle))|((with_reducible apply wq_slL Tryz.underlying22);infer_instance;exact rfl;exact rfl;exact rfl;exact hm1;exact rfl))
     go_step3
     refine⟨rfl,⟨_,_,_,_,_,_,_,_,_,_,_,_,_,_,_,_,_,_,_,_,_,_,_,_,_,_,_,_,_,_,_,_,_,_,_,_,_,_,rfl,⟨(show SlO M1 5 1 _ (o+m) ((F (k+1)).map v8)from by rw [EKK.out,List.map_append];exact hs1),hm.drop,HNK.out,(show L-m=BL0-16*(k+1)from by rw [HML.out,HL.out];omega),(by have:=HLE.out;omega),(show BitVec.ofNat 64 (k+1)+1#64=BitVec.ofNat 64 (k+1+1)from by apply BitVec.eq_of_toNat_eq;simp),fun h=>(show RdB w0 (slP q e m) (b.drop (16*(k+1)))from by have h6:m=16:=(by have:=HML.out;omega);rw [h6,←EDD.out];exact RDN.out w0 hrd0.out 16)⟩⟩, ?_⟩
     show L-m<L
     have:=HML.out
     omega
 · intro hp
   go_wp2_with (first|((with_reducible apply wq_mkR 0 BL0 hm);exact rfl;exact rfl;exact rfl;exact rfl;(focus omega);(focus omega);(focus omega);clear hm;intro g2 w hm))
   rw [show(Value.int IntKind.u64 1)=v64 1#64 from rfl]
   go_step3
   rename_i hK
   exact hK _ _ (hp _ _ ⟨_,_,_,_,_,_,_,_,_,_,_,_,_,_,_,_,_,_,_,_,_,_,_,_,_,_,_,_,_,_,_,_,_,_,_,_,_,_,rfl,⟨by rw [E0.out];exact SlO.room _ _ 1 BL0 ((zeros BL0).map v8) (by simp) (by unfold maxLen;omega),hm,Nat.zero_le _,rfl,HC.out,rfl,fun _=>HR.out⟩⟩)
end Go.Proofs.YtneacgpmjlocjaaGreatDoor
