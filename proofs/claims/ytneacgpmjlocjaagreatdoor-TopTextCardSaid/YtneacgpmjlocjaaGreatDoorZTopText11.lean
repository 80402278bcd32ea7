/-
  Texts of the program, walked, and plain ones. Conditions: those written in each theorem.
-/
import Derived.Test.YtneacgpmjlocjaaGreatDoorZTopText0
import Derived.Test.YtneacgpmjlocjaaGreatDoorZTopText10
import Derived.Test.YtneacgpmjlocjaaGreatDoorZTopText8
import Derived.Test.YtneacgpmjlocjaaGreatDoorZTopText7
import Derived.Test.YtneacgpmjlocjaaGreatDoorZTopText6
import Derived.Test.YtneacgpmjlocjaaGreatDoorZTopText5
set_option linter.unusedSimpArgs false
set_option linter.unusedVariables false
set_option maxHeartbeats 16000000
open Go.Lib (hid)
namespace Go.Proofs.YtneacgpmjlocjaaGreatDoor
open Go Go.RowKit
set_option maxRecDepth 100000
def kcells(gt:Nat)(K:KeyP):List Value:= .pointer (some ⟨gt,0,none⟩)::((K.i++(K.j++K.l)).map v8)
def KeyR(w:World)(g:Nat)(K:KeyP):Prop:=K.Ok∧∃gt gb,Row w g 139 (kcells gt K)∧Row w gt 88 (tcells gb mixT unmixT)
theorem KeyR.ext {w w':World}{g:Nat}{K:KeyP}(h:KeyR w g K)(hx:Ext w w'):KeyR w' g K:=by
 obtain⟨ho,gt,gb,h1,h2⟩:=h;exact⟨ho,gt,gb,row_ext h1 hx,row_ext h2 hx⟩
theorem row_seg {w:World}{g:Nat}{t:TypeId}{cs:List Value}(h:Row w g t cs)(k:Nat)(l:List Byte)(hl:(cs.drop k).take l.length=l.map v8):RdB w (some ⟨g,k,none⟩) l:=
 ⟨fun _=>rfl,fun i hi=>by
   simp only [Option.getD_some]
   have e:(⟨g,k,none⟩:Addr).add i=⟨g,k+i,none⟩:=by rw [Addr.add_mid]
   rw [e,row_cell h]
   have:=congrArg (·[i]?) hl
   simp only [List.getElem?_take,if_pos hi,List.getElem?_drop,List.getElem?_map]at this
   rw [this,List.getElem?_eq_getElem hi,List.getD_eq_getElem?_getD,List.getElem?_eq_getElem hi];rfl⟩
theorem kcells_i(gt:Nat)(K:KeyP)(h:K.Ok):((kcells gt K).drop 1).take K.i.length=K.i.map v8:=by
 simp [kcells,List.take_append_of_le_length]
theorem kcells_j(gt:Nat)(K:KeyP)(h:K.Ok):((kcells gt K).drop 17).take K.j.length=K.j.map v8:=by
 have:=h.hi
 simp only [kcells,show(17:Nat)=16+1 from rfl,dSC,List.map_append]
 rw [List.drop_append_of_le_length (by simp [this]),List.drop_eq_nil_of_le (by simp [this]),List.nil_append,List.take_append_of_le_length (by simp),List.take_of_length_le (by simp)]
theorem kcells_l(gt:Nat)(K:KeyP)(h:K.Ok):((kcells gt K).drop 33).take K.l.length=K.l.map v8:=by
 have h1:=h.hi
 have h2:=h.hj
 simp only [kcells,show(33:Nat)=32+1 from rfl,dSC]
 rw [←List.append_assoc,List.map_append,List.drop_append_of_le_length (by simp [h1,h2]),List.drop_eq_nil_of_le (by simp [h1,h2]),List.nil_append,List.take_of_length_le (by simp)]
theorem KeyR.rdi {w:World}{g:Nat}{K:KeyP}(h:KeyR w g K):RdB w (some ⟨g,1,none⟩) K.i:=by obtain⟨ho,gt,gb,h1,h2⟩:=h;exact row_seg h1 1 _ (kcells_i gt K ho)
theorem KeyR.rdj {w:World}{g:Nat}{K:KeyP}(h:KeyR w g K):RdB w (some ⟨g,17,none⟩) K.j:=by obtain⟨ho,gt,gb,h1,h2⟩:=h;exact row_seg h1 17 _ (kcells_j gt K ho)
theorem KeyR.rdl {w:World}{g:Nat}{K:KeyP}(h:KeyR w g K):RdB w (some ⟨g,33,none⟩) K.l:=by obtain⟨ho,gt,gb,h1,h2⟩:=h;exact row_seg h1 33 _ (kcells_l gt K ho)
theorem part_any(g:Nat)(K:KeyP)(n:Int)(w0:World)(hk:KeyR w0 g K):Gives Tryz.prog 127 #[.pointer (some ⟨g,0,none⟩), .int .i64 n] w0 (A8 (K.at n)):=by
 unfold Gives
 have hm:=Own.start w0
 have HI:=hid hk.rdi
 have HJ:=hid hk.rdj
 have HL:=hid hk.rdl
 have li:=hk.1.hi
 have lj:=hk.1.hj
 have ll:=hk.1.hl
 clear hk
 by_cases h0:n=0
 · subst h0
   rw [show K.at 0=K.i from rfl]
   go_enter Tryz.func127,Tryz.ntmps127
   go_wp2_with (first|((with_reducible apply wq_rdW (HI.out.ext hm.x));exact rfl;infer_instance;exact rfl;exact li)|((((with_reducible show qSt);first|(refine zE hm ?_)));clear hm;intro w hm)|((first|((with_reducible show qAl);first|(refine zG hm ?_)));clear hm;intro gx_;intro w hm))
   refine rtO hm rfl rfl ⟨rfl,hm.x⟩
 · have e0:(n==0)=false:=by simpa using h0
   by_cases h1:n=1
   · subst h1
     rw [show K.at 1=K.j from rfl]
     go_enter Tryz.func127,Tryz.ntmps127
     go_wp2_with (first|((with_reducible apply wq_rdW (HJ.out.ext hm.x));exact rfl;infer_instance;exact rfl;exact lj)|((((with_reducible show qSt);first|(refine zE hm ?_)));clear hm;intro w hm)|((first|((with_reducible show qAl);first|(refine zG hm ?_)));clear hm;intro gx_;intro w hm))
     refine rtO hm rfl rfl ⟨rfl,hm.x⟩
   · have e1:(n==1)=false:=by simpa using h1
     by_cases h2:n=2
     · subst h2
       rw [show K.at 2=K.l from rfl]
       go_enter Tryz.func127,Tryz.ntmps127
       go_wp2_with (first|((with_reducible apply wq_rdW (HL.out.ext hm.x));exact rfl;infer_instance;exact rfl;exact ll)|((((with_reducible show qSt);first|(refine zE hm ?_)));clear hm;intro w hm)|((first|((with_reducible show qAl);first|(refine zG hm ?_)));clear hm;intro gx_;intro w hm))
       refine rtO hm rfl rfl ⟨rfl,hm.x⟩
     · have e2:(n==2)=false:=by simpa using h2
       rw [show K.at n=zer 16 from by rw [KeyP.at,if_neg h0,if_neg h1,if_neg h2]]
       go_enter Tryz.func127,Tryz.ntmps127
       go_wp2_with (first|((with_reducible apply wq_build0 build_z16);exact rfl)|((((with_reducible show qSt);first|(refine zE hm ?_)));clear hm;intro w hm)|((first|((with_reducible show qAl);first|(refine zG hm ?_)));clear hm;intro gx_;intro w hm))
       refine rtO hm rfl rfl ⟨rfl,hm.x⟩
def plusL(a:List Byte):List (List Byte)→List Byte
 |[]=>a
 |b::ks=>plusL (bothL a b) ks
theorem plusL_length(ks:List (List Byte)):∀a:List Byte,a.length=16→(plusL a ks).length=16:=by
 induction ks with
 |nil=>intro a h;exact h
 |cons b ks ih=>intro a h;exact ih _ (bothL_length _ _)
theorem plusL_append(ks ls:List (List Byte)):∀a:List Byte,plusL a (ks++ls)=plusL (plusL a ks) ls:=by
 induction ks with
 |nil=>intro a;rfl
 |cons b ks ih=>intro a;exact ih _
theorem plusL_take(a:List Byte)(ks:List (List Byte))(k:Nat)(h:k<ks.length):plusL a (ks.take (k+1))=bothL (plusL a (ks.take k)) (ks.getD k []):=by
 rw [List.take_succ_eq_append_getElem h,plusL_append,List.getD_eq_getElem?_getD,List.getElem?_eq_getElem h];rfl
theorem ezplus_any(b:List Byte)(ks:List (List Byte))(p:Option Addr)(c:Nat)(hb:b.length=16)(w0:World)(hk:RdK w0 p 16 ks)(hc:ks.length≤c)(hcm:ks.length≤70368744177664):Gives Tryz.prog 125 #[A8 b, .slice p ks.length c] w0 (A8 (plusL b ks)):=by
 unfold Gives
 have hm:=Own.start w0
 have hb1:=Nat.le_of_eq hb
 have hb2:=Nat.le_of_eq hb.symm
 have HK:=hid hk
 have HB:=hid hb
 clear hb hk
 go_enter Tryz.func125,Tryz.ntmps125
 go_wp2_with (first|((first|((with_reducible show qAl);first|(refine zG hm ?_))|((with_reducible show qBx);first|(refine zH hm ?_)));clear hm;(first|(have hx_:=g1;clear hx_;(first|(have hx_:=g2;clear hx_;(first|(have hx_:=g3;clear hx_;intro gx_)|intro g3))|intro g2))|intro g1);intro w hm))
 go_loopw [10] (fun i wr=>∃k:Nat,k≤ks.length∧i= .int .i64 k∧Own w0 wr [⟨g2,132,(zer 16).map v8⟩,⟨g1,132,(plusL b (ks.take k)).map v8⟩]) (fun i _=>ks.length-(intOf i).toNat)
 case atStart=>exact⟨0,by omega,rfl,hm⟩
 case round =>
   obtain⟨k,hk,rfl,hm⟩:=hrel
   have hB:=plusL_length (ks.take k) b HB.out
   by_cases hlt:k<ks.length
   · have hd : decide ((k:Int)<(ks.length:Int))=true:=decide_eq_true (by omega)
     have hd2:(k:Int)<(ks.length:Int):=by omega
     obtain⟨a,rfl⟩:=HK.out.addr (by omega) (by omega)
     obtain⟨hK,hKl⟩:=HK.out.at (by omega) k hlt
     have hS:=plusL_take b ks k hlt
     simp only [Option.getD_some]at hK
     generalize plusL b (ks.take k)=B at*
     generalize ks.getD k []=K at*
     have HS:=hid hS
     have HK2:=hid hK
     have ES:Hid (B=part 16 0 (fun i=>nth B i^^^nth K i) (nth B)):=hid (part_start hB)
     have EE:Hid (part 16 16 (fun i=>nth B i^^^nth K i) (nth B)=bothL B K):=hid part_all
     have hK1:=Nat.le_of_eq hKl
     have hK2':=Nat.le_of_eq hKl.symm
     clear hK hS
     go_wp2_with (first|((with_reducible apply wq_rdW (HK2.out.ext hm.x));exact rfl;infer_instance;exact rfl;exact hKl)|((((with_reducible show qSt);first|(refine zE hm ?_)));clear hm;intro w hm)|((first|((with_reducible show qAl);first|(refine zG hm ?_)));clear hm;(first|(have hx_:=g1;clear hx_;(first|(have hx_:=g2;clear hx_;(first|(have hx_:=g3;clear hx_;intro gx_)|intro g3))|intro g2))|intro g1);intro w hm))
     rw [ES.out]at hm
     go_loopw [14] (fun i wr=>∃j:Nat,j≤16∧i= .int .i64 j∧Own w0 wr [⟨g3,132,K.map v8⟩,⟨g2,132,(zer 16).map v8⟩,⟨g1,132,(part 16 j (fun i=>nth B i^^^nth K i) (nth B)).map v8⟩]) (fun i _=>16-(intOf i).toNat)
     case atStart=>exact⟨0,by omega,rfl,hm⟩
     case round =>
       obtain⟨j,hj,rfl,hm⟩:=hrel
       by_cases hjl:j<16
       · have hj1:decide ((j:Int)<16)=true:=decide_eq_true (by omega)
         have hj2:(j:Int)<16:=by omega
         have EJ:Hid (setN (part 16 j (fun i=>nth B i^^^nth K i) (nth B)) j (nth (part 16 j (fun i=>nth B i^^^nth K i) (nth B)) j^^^nth K j)=part 16 (j+1) (fun i=>nth B i^^^nth K i) (nth B)):=hid (by
           rw [nth_part_ge hjl (Nat.le_refl _)];exact part_set (f:=fun i=>nth B i^^^nth K i) hjl)
         have lJ:(part 16 j (fun i=>nth B i^^^nth K i) (nth B)).length=16:=part_length
         generalize part 16 j (fun i=>nth B i^^^nth K i) (nth B)=C at*
         go_wp2_with fail
         refine rgE 8 28 ?_
         simp only [tSC,tZe,dSC,dZe,mCo,mNi]
         repeat (first
             | (apply walk_is rfl rfl rfl
                · (intro wx hwx;first|((with_reducible show qGl);first|(exact zJ (hm.ext hwx)))|(go_simp;(try go_bits);first|exact gives_same|exact gives_skip))
                · (simp only [Act.put,sIB,sCS,sCZ];rfl))
             | (apply walk_not rfl rfl rfl
                · (simp only [Act.put,sIB,sCS,sCZ];rfl)))
         intro wz hwz
         simp only [zCC,zNR]
         repeat (first|rw [fin_is]|(rw [fin_cons];intro _ _))
         rw [fin_nil]
         try (replace hm:=hm.ext hwz)
         simp only [Act.put,sIB,sCS,sCZ]
         go_wp2_with (first|((((with_reducible show qSt);first|(refine zD hm ?_)));clear hm;intro w hm))
         go_roundw
         case rel=>
           rw [EJ.out]at hm
           exact⟨j+1,by omega,by go_num,hm⟩
         case measure=>simp [intOf]<;>omega
       · obtain rfl:j=16:=by omega
         have hj1:decide (((16:Nat):Int)<16)=false:=decide_eq_false (by omega)
         rw [EE.out]at hm
         go_wp2_with fail
         go_roundw
         case rel=>exact⟨k+1,by omega,by go_num,by rw [HS.out];exact hm.drop⟩
         case measure=>simp [intOf]<;>omega
   · obtain rfl:k=ks.length:=by omega
     have hd:decide ((ks.length:Int)<(ks.length:Int))=false:=decide_eq_false (by omega)
     rw [List.take_length]at hm hB
     go_wp2_with (first|((with_reducible show qLd);first|(refine zB hm ?_))|((((with_reducible show qSt);first|(refine zE hm ?_)));clear hm;intro w hm))
     refine rtO hm rfl rfl ⟨rfl,hm.x⟩
theorem off_neg(g:Nat)(j i:Int)(w0:World)(h:j<0∨i<0):Gives Tryz.prog 126 #[.pointer (some ⟨g,0,none⟩), .int .i64 j, .int .i64 i] w0 (A8 (zer 16)):=by
 unfold Gives
 have hm:=Own.start w0
 by_cases h1:j<0
 · have e1:decide (j<0)=true:=decide_eq_true h1
   go_enter Tryz.func126,Tryz.ntmps126
   go_wp2_with (first|((with_reducible apply wq_build0 build_z16);exact rfl)|((((with_reducible show qSt);first|(refine zE hm ?_)));clear hm;intro w hm)|((first|((with_reducible show qAl);first|(refine zG hm ?_)));clear hm;intro gx_;intro w hm))
   refine rtO hm rfl rfl ⟨rfl,hm.x⟩
 · have e1:decide (j<0)=false:=decide_eq_false h1
   have h2:i<0:=by omega
   have e2:decide (i<0)=true:=decide_eq_true h2
   go_enter Tryz.func126,Tryz.ntmps126
   go_wp2_with (first|((with_reducible apply wq_build0 build_z16);exact rfl)|((((with_reducible show qSt);first|(refine zE hm ?_)));clear hm;intro w hm)|((first|((with_reducible show qAl);first|(refine zG hm ?_)));clear hm;intro gx_;intro w hm))
   refine rtO hm rfl rfl ⟨rfl,hm.x⟩
theorem off_pos(g:Nat)(K:KeyP)(j i:Nat)(w0:World)(hk:KeyR w0 g K)(hj:j≤9223372036854775807)(hi:i≤9223372036854775807):Gives Tryz.prog 126 #[.pointer (some ⟨g,0,none⟩), .int .i64 j, .int .i64 i] w0 (A8 (offN K j i)):=by
 unfold Gives
 have hm:=Own.start w0
 have HI:=hid hk.rdi
 have HJ:=hid hk.rdj
 have HL:=hid hk.rdl
 have li:=hk.1.hi
 have lj:=hk.1.hj
 have ll:=hk.1.hl
 have e1:decide ((j:Int)<0)=false:=decide_eq_false (by omega)
 have e2:decide ((i:Int)<0)=false:=decide_eq_false (by omega)
 obtain⟨r,hr,hr8⟩:∃r:Nat,i%8=r∧r<8:=⟨_,rfl,Nat.mod_lt _ (by omega)⟩
 obtain⟨u,hu,hu8⟩:∃u:Nat,i/8=u∧u≤1152921504606846975:=⟨_,rfl,by omega⟩
 have a1:(i:Int)%8=(r:Int):=by omega
 have a2:(i:Int).tmod 8=(r:Int):=by rw [Int.tmod_eq_emod_of_nonneg (by omega)];exact a1
 have a3:(i:Int)/8=(u:Int):=by omega
 have a4:(i:Int).tdiv 8=(u:Int):=by rw [Int.tdiv_eq_ediv_of_nonneg (by omega)];exact a3
 have D1:Hid (∀wx,Gives Tryz.prog 128 #[.int .u64 (j:Int),A8 K.j] wx (A8 (mulL (BitVec.ofNat 64 j) K.j))):=hid fun wx=>by rw [natv64 (by omega)];exact ring_mul _ K.j lj wx
 have D3:Hid (∀wx,Gives Tryz.prog 128 #[.int .u64 (r:Int),A8 K.l] wx (A8 (mulL (BitVec.ofNat 64 r) K.l))):=hid fun wx=>by rw [natv64 (by omega)];exact ring_mul _ K.l ll wx
 have l1:=mulL_length (BitVec.ofNat 64 j) K.j
 have l3:=mulL_length (BitVec.ofNat 64 r) K.l
 have l2:=dblN_length K.i li (upN i)
 have eO:offN K j i=plusL (mulL (BitVec.ofNat 64 j) K.j) [dblN K.i (upN i),mulL (BitVec.ofNat 64 r) K.l]:=by rw [offN,hr];rfl
 have D4:Hid (∀(wx:World)(p:Option Addr)(c:Nat),2≤c→RdK wx p 16 [dblN K.i (upN i),mulL (BitVec.ofNat 64 r) K.l]→Gives Tryz.prog 125 #[A8 (mulL (BitVec.ofNat 64 j) K.j), .slice p 2 c] wx (A8 (offN K j i))):=hid fun wx p c hc h=>eO ▸ ezplus_any (mulL (BitVec.ofNat 64 j) K.j) [dblN K.i (upN i),mulL (BitVec.ofNat 64 r) K.l] p c l1 wx h hc (by simp)
 have hk2:Hid (∀k∈[dblN K.i (upN i),mulL (BitVec.ofNat 64 r) K.l],k.length=16):=hid (by simp [l2,l3])
 have lO:=offN_length K j i
 by_cases hr0:r≤1
 · have d2:=fun wx=>ring_raised (upN i) K.i li (by unfold upN;omega) wx
   have eu:((upN i:Nat):Int)=(u:Int)+(r:Int):=by unfold upN;omega
   rw [eu]at d2
   have D2:=hid d2
   have hr1:(r:Int)≤1:=by omega
   clear d2 eu hr0
   clear eO
   generalize mulL (BitVec.ofNat 64 j) K.j=A at*
   generalize mulL (BitVec.ofNat 64 r) K.l=C at*
   generalize dblN K.i (upN i)=B at*
   generalize offN K j i=O at*
   clear hr hu hk
   go_enter Tryz.func126,Tryz.ntmps126
   go_wp2_with (first|((first|((with_reducible show qAl);first|(refine zG hm ?_)));clear hm;intro gx_;intro w hm))
   have hi1:=fun wx (hwx:Ext w wx)=>HI.out.ext (hm.x.trans hwx)
   have hj1:=fun wx (hwx:Ext w wx)=>HJ.out.ext (hm.x.trans hwx)
   have hl1:=fun wx (hwx:Ext w wx)=>HL.out.ext (hm.x.trans hwx)
   refine rgE 23 48 ?_
   simp only [tSC,tZe,dSC,dZe,mCo,mNi]
   repeat (first
       | (apply walk_is rfl rfl rfl
          · (intro wx hwx;(with_reducible apply gq_rdW ((hi1) wx hwx));infer_instance;exact rfl;(focus (first|rfl|omega|(simp;done)|(simp;omega))))
          · (simp only [Act.put,sIB,sCS,sCZ];rfl))
       | (apply walk_is rfl rfl rfl
          · (intro wx hwx;(with_reducible apply gq_rdW ((hj1) wx hwx));infer_instance;exact rfl;(focus (first|rfl|omega|(simp;done)|(simp;omega))))
          · (simp only [Act.put,sIB,sCS,sCZ];rfl))
       | (apply walk_is rfl rfl rfl
          · (intro wx hwx;(with_reducible apply gq_rdW ((hl1) wx hwx));infer_instance;exact rfl;(focus (first|rfl|omega|(simp;done)|(simp;omega))))
          · (simp only [Act.put,sIB,sCS,sCZ];rfl))
       |(apply walk_some (KeysS ([B,C])) 46 (KeysS.stable _) rfl rfl rfl rfl;(intro wx hwx;exact gq_bs2 (hk2.out) (bs_run2 B C l2 l3 wx) rfl rfl))
       | (apply walk_from (T:=[(46,KeysS [B,C])]) rfl rfl
          · (intro wx hwx;simp only [withS];(rintro x ⟨p,c,rfl,hlc,hk'⟩);refine⟨rfl, ?_⟩;go_simp;exact gives_call (D4.out wx p c hlc hk'))
          · (simp only [Act.put,sIB,sCS,sCZ];rfl))
       | (apply walk_is rfl rfl rfl
          · (intro wx hwx;go_simp;(try go_bits);first|exact gives_same|exact gives_skip|with_reducible exact gives_call (D1.out wx)|with_reducible exact gives_call (D2.out wx)|with_reducible exact gives_call (D3.out wx))
          · (simp only [Act.put,sIB,sCS,sCZ];rfl))
       | (apply walk_not rfl rfl rfl
          · (simp only [Act.put,sIB,sCS,sCZ];rfl)))
   intro wz hwz
   simp only [zCC,zNR]
   repeat (first|rw [fin_is]|(rw [fin_cons];intro _ _))
   rw [fin_nil]
   try (replace hm:=hm.ext hwz)
   simp only [Act.put,sIB,sCS,sCZ]
   clear hi1 hj1 hl1
   go_wp2_with (first|((((with_reducible show qSt);first|(refine zE hm ?_)));clear hm;intro w hm))
   refine rtO hm rfl rfl ⟨rfl,hm.x⟩
 · have d2:=fun wx=>ring_raised (upN i) K.i li (by unfold upN;omega) wx
   have eu:((upN i:Nat):Int)=(u:Int)+1:=by unfold upN;omega
   rw [eu]at d2
   have D2:=hid d2
   have hr1:¬(r:Int)≤1:=by omega
   clear d2 eu hr0
   clear eO
   generalize mulL (BitVec.ofNat 64 j) K.j=A at*
   generalize mulL (BitVec.ofNat 64 r) K.l=C at*
   generalize dblN K.i (upN i)=B at*
   generalize offN K j i=O at*
   clear hr hu hk
   go_enter Tryz.func126,Tryz.ntmps126
   go_wp2_with (first|((first|((with_reducible show qAl);first|(refine zG hm ?_)));clear hm;intro gx_;intro w hm))
   have hi1:=fun wx (hwx:Ext w wx)=>HI.out.ext (hm.x.trans hwx)
   have hj1:=fun wx (hwx:Ext w wx)=>HJ.out.ext (hm.x.trans hwx)
   have hl1:=fun wx (hwx:Ext w wx)=>HL.out.ext (hm.x.trans hwx)
   refine rgE 23 48 ?_
   simp only [tSC,tZe,dSC,dZe,mCo,mNi]
   repeat (first
       | (apply walk_is rfl rfl rfl
          · (intro wx hwx;(with_reducible apply gq_rdW ((hi1) wx hwx));infer_instance;exact rfl;(focus (first|rfl|omega|(simp;done)|(simp;omega))))
          · (simp only [Act.put,sIB,sCS,sCZ];rfl))
       | (apply walk_is rfl rfl rfl
          · (intro wx hwx;(with_reducible apply gq_rdW ((hj1) wx hwx));infer_instance;exact rfl;(focus (first|rfl|omega|(simp;done)|(simp;omega))))
          · (simp only [Act.put,sIB,sCS,sCZ];rfl))
       | (apply walk_is rfl rfl rfl
          · (intro wx hwx;(with_reducible apply gq_rdW ((hl1) wx hwx));infer_instance;exact rfl;(focus (first|rfl|omega|(simp;done)|(simp;omega))))
          · (simp only [Act.put,sIB,sCS,sCZ];rfl))
       |(apply walk_some (KeysS ([B,C])) 46 (KeysS.stable _) rfl rfl rfl rfl;(intro wx hwx;exact gq_bs2 (hk2.out) (bs_run2 B C l2 l3 wx) rfl rfl))
       | (apply walk_from (T:=[(46,KeysS [B,C])]) rfl rfl
          · (intro wx hwx;simp only [withS];(rintro x ⟨p,c,rfl,hlc,hk'⟩);refine⟨rfl, ?_⟩;go_simp;exact gives_call (D4.out wx p c hlc hk'))
          · (simp only [Act.put,sIB,sCS,sCZ];rfl))
       | (apply walk_is rfl rfl rfl
          · (intro wx hwx;go_simp;(try go_bits);first|exact gives_same|exact gives_skip|with_reducible exact gives_call (D1.out wx)|with_reducible exact gives_call (D2.out wx)|with_reducible exact gives_call (D3.out wx))
          · (simp only [Act.put,sIB,sCS,sCZ];rfl))
       | (apply walk_not rfl rfl rfl
          · (simp only [Act.put,sIB,sCS,sCZ];rfl)))
   intro wz hwz
   simp only [zCC,zNR]
   repeat (first|rw [fin_is]|(rw [fin_cons];intro _ _))
   rw [fin_nil]
   try (replace hm:=hm.ext hwz)
   simp only [Act.put,sIB,sCS,sCZ]
   clear hi1 hj1 hl1
   go_wp2_with (first|((((with_reducible show qSt);first|(refine zE hm ?_)));clear hm;intro w hm))
   refine rtO hm rfl rfl ⟨rfl,hm.x⟩
theorem KeyR.off {w:World}{g:Nat}{K:KeyP}(h:KeyR w g K)(j i:Int)(hj:j≤9223372036854775807)(hi:i≤9223372036854775807):Gives Tryz.prog 126 #[.pointer (some ⟨g,0,none⟩), .int .i64 j, .int .i64 i] w (A8 (offZ K j i)):=by
 by_cases hn:j<0∨i<0
 · rw [offZ,if_pos hn];exact off_neg g j i w hn
 · rw [offZ,if_neg hn]
   have:=off_pos g K j.toNat i.toNat w h (by omega) (by omega)
   rwa [Int.toNat_of_nonneg (by omega),Int.toNat_of_nonneg (by omega)]at this
theorem e_neg(g:Nat)(j i:Int)(x:List Byte)(hx:x.length=16)(w0:World)(h:j< -1∨i<0):Gives Tryz.prog 98 #[.pointer (some ⟨g,0,none⟩), .int .i64 j, .int .i64 i,A8 x] w0 (A8 (zer 16)):=by
 unfold Gives
 have hm:=Own.start w0
 by_cases h1:j< -1
 · have e1:decide (j< -1)=true:=decide_eq_true h1
   go_enter Tryz.func98,Tryz.ntmps98
   go_wp2_with (first|((with_reducible apply wq_build0 build_z16);exact rfl)|((((with_reducible show qSt);first|(refine zE hm ?_)));clear hm;intro w hm)|((first|((with_reducible show qAl);first|(refine zG hm ?_))|((with_reducible show qBx);first|(refine zH hm ?_)));clear hm;intro gx_;intro w hm))
   refine rtO hm rfl rfl ⟨rfl,hm.x⟩
 · have e1:decide (j< -1)=false:=decide_eq_false h1
   have h2:i<0:=by omega
   have e2:decide (i<0)=true:=decide_eq_true h2
   go_enter Tryz.func98,Tryz.ntmps98
   go_wp2_with (first|((with_reducible apply wq_build0 build_z16);exact rfl)|((((with_reducible show qSt);first|(refine zE hm ?_)));clear hm;intro w hm)|((first|((with_reducible show qAl);first|(refine zG hm ?_))|((with_reducible show qBx);first|(refine zH hm ?_)));clear hm;intro gx_;intro w hm))
   refine rtO hm rfl rfl ⟨rfl,hm.x⟩
theorem e_pos(g:Nat)(K:KeyP)(j i:Nat)(x:List Byte)(hx:x.length=16)(w0:World)(hk:KeyR w0 g K)(hj:j≤9223372036854775807)(hi:i≤9223372036854775807):Gives Tryz.prog 98 #[.pointer (some ⟨g,0,none⟩), .int .i64 j, .int .i64 i,A8 x] w0 (A8 (eN K j i x)):=by
 unfold Gives
 have hm:=Own.start w0
 have HI:=hid hk.rdi
 have HJ:=hid hk.rdj
 have HL:=hid hk.rdl
 have li:=hk.1.hi
 have lj:=hk.1.hj
 have ll:=hk.1.hl
 obtain⟨hok,gt,gb,hrk,hrt⟩:=id hk
 have HRK:=hid fun (wx:World)(h:Ext w0 wx)=>row_ext hrk h
 have HRT:=hid fun (wx:World)(h:Ext w0 wx)=>row_ext hrt h
 have PT:Hid ((kcells gt K)[0]? =some (.pointer (some ⟨gt,0,none⟩))):=hid rfl
 have e0:decide ((j:Int)< -1)=false:=decide_eq_false (by omega)
 have e1:¬(j:Int)< -1:=by omega
 have e2:decide ((i:Int)<0)=false:=decide_eq_false (by omega)
 have e3:decide ((0:Int)≤(j:Int))=true:=decide_eq_true (by omega)
 have e4:decide ((j:Int)≥0)=true:=decide_eq_true (by omega)
 have D1:=hid fun (wx:World)(h:Ext w0 wx)=>off_pos g K j i wx (hk.ext h) hj hi
 have lO:=offN_length K j i
 have D2:Hid (∀(wx:World)(p:Option Addr)(c:Nat),1≤c→RdK wx p 16 [offN K j i]→Gives Tryz.prog 125 #[A8 x, .slice p 1 c] wx (A8 (bothL x (offN K j i)))):=hid fun wx p c hc h=>ezplus_any x [offN K j i] p c hx wx h hc (by simp)
 have lX:(bothL x (offN K j i)).length=16:=bothL_length _ _
 have D3:Hid (∀(wx:World)(p:Option Addr)(c:Nat),4≤c→RdK wx p 16 [K.j,K.i,K.l,zer 16]→Row wx gt 88 (tcells gb mixT unmixT)→Gives Tryz.prog 89 #[.pointer (some ⟨gt,0,none⟩),A8 (bothL x (offN K j i)), .slice p 4 c] wx (A8 (eN K j i x))):=hid fun wx p c hc h hr=>trounds_any gt gb (bothL x (offN K j i)) [K.j,K.i,K.l,zer 16] p c lX wx h hc (by simp) hr
 have lE:=eN_length K j i x
 have lz:(zer (n:=8) 16).length=16:=zer_length
 have hk1:Hid (∀k∈[offN K j i],k.length=16):=hid (by simp [lO])
 have hk4:Hid (∀k∈[K.j,K.i,K.l,zer 16],k.length=16):=hid (by simp [li,lj,ll,lz])
 have ha1:=Nat.le_of_eq hx
 have ha2:=Nat.le_of_eq hx.symm
 generalize eN K j i x=Y at*
 generalize bothL x (offN K j i)=X at*
 generalize offN K j i=O at*
 clear hk hok hrk hrt
 go_enter Tryz.func98,Tryz.ntmps98
 go_wp2_with (first|((first|((with_reducible show qAl);first|(refine zG hm ?_))|((with_reducible show qBx);first|(refine zH hm ?_)));clear hm;intro gx_;intro w hm))
 have hi1:=fun wx (hwx:Ext w wx)=>HI.out.ext (hm.x.trans hwx)
 have hj1:=fun wx (hwx:Ext w wx)=>HJ.out.ext (hm.x.trans hwx)
 have hl1:=fun wx (hwx:Ext w wx)=>HL.out.ext (hm.x.trans hwx)
 have hr1:=fun wx (hwx:Ext w wx)=>HRK.out wx (hm.x.trans hwx)
 have hx0:=hm.x
 refine rgE 26 77 ?_
 simp only [tSC,tZe,dSC,dZe,mCo,mNi]
 repeat (first
     | (apply walk_is rfl rfl rfl
        · (intro wx hwx;(with_reducible apply gq_rdW ((hi1) wx hwx));infer_instance;exact rfl;(focus (first|rfl|omega|(simp;done)|(simp;omega))))
        · (simp only [Act.put,sIB,sCS,sCZ];rfl))
     | (apply walk_is rfl rfl rfl
        · (intro wx hwx;(with_reducible apply gq_rdW ((hj1) wx hwx));infer_instance;exact rfl;(focus (first|rfl|omega|(simp;done)|(simp;omega))))
        · (simp only [Act.put,sIB,sCS,sCZ];rfl))
     | (apply walk_is rfl rfl rfl
        · (intro wx hwx;(with_reducible apply gq_rdW ((hl1) wx hwx));infer_instance;exact rfl;(focus (first|rfl|omega|(simp;done)|(simp;omega))))
        · (simp only [Act.put,sIB,sCS,sCZ];rfl))
     | (apply walk_is rfl rfl rfl
        · (intro wx hwx;(with_reducible apply gq_row1 ((hr1) wx hwx));infer_instance;exact rfl;exact PT.out)
        · (simp only [Act.put,sIB,sCS,sCZ];rfl))
     |(apply walk_some (KeysS ([O])) 33 (KeysS.stable _) rfl rfl rfl rfl;(intro wx hwx;exact gq_bs1 (hk1.out) (bs_run1 O lO wx) rfl))
     |(apply walk_some (KeysS ([K.j,K.i,K.l,zer 16])) 48 (KeysS.stable _) rfl rfl rfl rfl;(intro wx hwx;exact gq_bs4 (hk4.out) (bs_run4 K.j K.i K.l (zer 16) lj li ll lz wx) rfl rfl rfl rfl))
     | (apply walk_from (T:=[(33,KeysS [O])]) rfl rfl
        · (intro wx hwx;simp only [withS];(rintro x_ ⟨p,c,rfl,hlc,hk'⟩);refine⟨rfl, ?_⟩;go_simp;exact gives_call (D2.out wx p c hlc hk'))
        · (simp only [Act.put,sIB,sCS,sCZ];rfl))
     | (apply walk_from (T:=[(48,KeysS [K.j,K.i,K.l,zer 16])]) rfl rfl
        · (intro wx hwx;simp only [withS];(rintro x_ ⟨p,c,rfl,hlc,hk'⟩);refine⟨rfl, ?_⟩;go_simp;exact gives_call (D3.out wx p c hlc hk' (HRT.out wx (hx0.trans hwx))))
        · (simp only [Act.put,sIB,sCS,sCZ];rfl))
     |(apply walk_is rfl rfl rfl;(intro wx hwx;(with_reducible apply gq_build build_z16);(first|rfl|simp [Act.eval]|kernel_rfl));(simp only [Act.put,sIB,sCS,sCZ];rfl))
     | (apply walk_is rfl rfl rfl
        · (intro wx hwx;first|((with_reducible show qGl);first|(exact zK (hm.ext hwx)))|(go_simp;(try go_bits);first|exact gives_same|exact gives_skip|with_reducible exact gives_call (D1.out wx (hx0.trans hwx))))
        · (simp only [Act.put,sIB,sCS,sCZ];rfl))
     | (apply walk_not rfl rfl rfl
        · (simp only [Act.put,sIB,sCS,sCZ];rfl)))
 intro wz hwz
 simp only [zCC,zNR]
 repeat (first|rw [fin_is]|(rw [fin_cons];intro _ _))
 rw [fin_nil]
 try (replace hm:=hm.ext hwz)
 simp only [Act.put,sIB,sCS,sCZ]
 clear hi1 hj1 hl1 hr1 hx0
 go_wp2_with (first|((((with_reducible show qSt);first|(refine zE hm ?_)));clear hm;intro w hm))
 refine rtO hm rfl rfl ⟨rfl,hm.x⟩
def tenF(K:KeyP):Nat→List (List Byte)
 |0=>[]
 |k+1=>tenF K k++[K.at ((k%3:Nat):Int)]
theorem tenF_length(K:KeyP):∀k,(tenF K k).length=k
 |0=>rfl
 |k+1=>by rw [tenF,List.length_append,tenF_length K k];rfl
theorem tenF_each {K:KeyP}(h:K.Ok):∀k,∀b∈tenF K k,b.length=16
 |0=>by simp [tenF]
 | k+1=>by
   intro b hb
   rw [tenF,List.mem_append,List.mem_singleton]at hb
   rcases hb with hb|rfl
   · exact tenF_each h k b hb
   · exact KeyP.at_length h _
theorem e_ten(g:Nat)(K:KeyP)(i:Nat)(x:List Byte)(hx:x.length=16)(w0:World)(hk:KeyR w0 g K)(hi:i≤9223372036854775807):Gives Tryz.prog 98 #[.pointer (some ⟨g,0,none⟩), .int .i64 (-1), .int .i64 i,A8 x] w0 (A8 (eT K i x)):=by
 unfold Gives
 have hm:=Own.start w0
 have HL:=hid hk.rdl
 have ll:=hk.1.hl
 obtain⟨hok,gt,gb,hrk,hrt⟩:=id hk
 have HRK:=hid fun (wx:World)(h:Ext w0 wx)=>row_ext hrk h
 have HRT:=hid fun (wx:World)(h:Ext w0 wx)=>row_ext hrt h
 have PT:Hid ((kcells gt K)[0]? =some (.pointer (some ⟨gt,0,none⟩))):=hid rfl
 have HK:=hid fun (wx:World)(h:Ext w0 wx)=>hk.ext h
 have OK:=hid hok
 have e2:decide ((i:Int)<0)=false:=decide_eq_false (by omega)
 have D1:Hid (∀wx,Gives Tryz.prog 128 #[.int .u64 (i:Int),A8 K.l] wx (A8 (mulL (BitVec.ofNat 64 i) K.l))):=hid fun wx=>by rw [natv64 (by omega)];exact ring_mul _ K.l ll wx
 have lO:=mulL_length (BitVec.ofNat 64 i) K.l
 have D2:Hid (∀(wx:World)(p:Option Addr)(c:Nat),1≤c→RdK wx p 16 [mulL (BitVec.ofNat 64 i) K.l]→Gives Tryz.prog 125 #[A8 x, .slice p 1 c] wx (A8 (bothL x (mulL (BitVec.ofNat 64 i) K.l)))):=hid fun wx p c hc h=>ezplus_any x [mulL (BitVec.ofNat 64 i) K.l] p c hx wx h hc (by simp)
 have lX:(bothL x (mulL (BitVec.ofNat 64 i) K.l)).length=16:=bothL_length _ _
 have D3:Hid (∀(wx:World)(p:Option Addr)(c:Nat),10≤c→RdK wx p 16 (tenF K 10)→Row wx gt 88 (tcells gb mixT unmixT)→Gives Tryz.prog 89 #[.pointer (some ⟨gt,0,none⟩),A8 (bothL x (mulL (BitVec.ofNat 64 i) K.l)), .slice p 10 c] wx (A8 (eT K i x))):=hid fun wx p c hc h hr=>trounds_any gt gb (bothL x (mulL (BitVec.ofNat 64 i) K.l)) (tenK K) p c lX wx h hc (by simp [tenK]) hr
 have lE:=eT_length K i x
 have hk1:Hid (∀k∈[mulL (BitVec.ofNat 64 i) K.l],k.length=16):=hid (by simp [lO])
 have ha1:=Nat.le_of_eq hx
 have ha2:=Nat.le_of_eq hx.symm
 have EACH:=hid (tenF_each hok)
 have LEN:=hid (tenF_length K)
 generalize eT K i x=Y at*
 generalize bothL x (mulL (BitVec.ofNat 64 i) K.l)=X at*
 generalize mulL (BitVec.ofNat 64 i) K.l=O at*
 clear hk hok hrk hrt
 go_enter Tryz.func98,Tryz.ntmps98
 go_wp2_with (first|((first|((with_reducible show qAl);first|(refine zG hm ?_))|((with_reducible show qBx);first|(refine zH hm ?_)));clear hm;(first|(have hx_:=g1;clear hx_;(first|(have hx_:=g2;clear hx_;intro gx_)|intro g2))|intro g1);intro w hm))
 go_loopw [9,50] (fun v n wr=>∃(k:Nat)(M:List Blk),k≤10∧n= .int .i64 k∧SlO M 132 16 v k (catV (tenF K k))∧Own w0 wr (M++[⟨g2,132,(zer 16).map v8⟩,⟨g1,132,x.map v8⟩])) (fun _ n _=>10-(intOf n).toNat)
 case atStart=>exact⟨0,[],by omega,rfl,SlO.nil _ _,hm⟩
 case round =>
   obtain⟨k,M,hk,rfl,hso,hm⟩:=hrel
   obtain⟨p0,c0,rfl⟩:=hso.form
   have HSO:=hid hso
   clear hso
   by_cases hlt:k<10
   · have hd:decide ((k:Int)<10)=true:=decide_eq_true (by omega)
     obtain⟨r,hr,hr8⟩:∃r:Nat,k%3=r∧r<3:=⟨_,rfl,Nat.mod_lt _ (by omega)⟩
     have a1:(k:Int)%3=(r:Int):=by omega
     have a2:(k:Int).tmod 3=(r:Int):=by rw [Int.tmod_eq_emod_of_nonneg (by omega)];exact a1
     have CP:=hid fun (wx:World)(h:Ext w0 wx)=>part_any g K r wx (HK.out wx h)
     have lP:=KeyP.at_length OK.out (r:Int)
     have EP:Hid (tenF K (k+1)=tenF K k++[K.at (r:Int)]):=hid (by rw [tenF,hr])
     have hkp:Hid (∀b∈[K.at (r:Int)],b.length=16):=hid (by simp [lP])
     generalize K.at (r:Int)=B at*
     clear hr
     have lcat:(catV [B]).length=1*16:=catV_length 16 [B] hkp.out
     go_wp2_with (first|(go_at_call 127;(with_reducible refine(CP.out _ hm.x).mono ?_);rintro e_ w ⟨rfl,hx_⟩;replace hm:=hm.ext hx_;clear hx_)|((with_reducible apply wq_bs1 hm (bs_run1 B lP _));exact rfl;exact rfl;clear hm;intro gk w hm)|((with_reducible show wpList _ _ _ (Oper.mk _ (Op.call _) _ _ _ _::_) _ _);refine wplO_app (M:=M) (R:=_) (ds:=catV [B]) (hm.perm (List.perm_middle.symm)) HSO.out rfl rfl rfl rfl Tryz.underlying161 lcat (RdK.cells ⟨hkp.out,RdB.of_row (hm.row (by repeat (first|exact Has.hd|assumption|apply Has.tl|apply Has.app)))⟩) (catV_one _) (by omega) ?_;clear hm;intro v1 w M1 hm hs1;obtain⟨p_v1,c_v1,rfl⟩:=hs1.form;replace hm:=hm.perm (List.perm_middle)))
     go_roundw
     case rel=>exact⟨k+1,M1,by omega,by go_num,by rw [EP.out,catV_append];exact hs1,hm.drop⟩
     case measure=>simp [intOf]<;>omega
   · obtain rfl:k=10:=by omega
     have hd:decide (((10:Nat):Int)<10)=false:=decide_eq_false (by omega)
     obtain⟨hk10,hn10,hc10⟩:=slo_rdK HSO.out (EACH.out 10) hm
     have HK10:=hid hk10
     clear hk10 hn10
     go_wp2_with fail
     have hl1:=fun wx (hwx:Ext wr wx)=>HL.out.ext (hm.x.trans hwx)
     have hr1:=fun wx (hwx:Ext wr wx)=>HRK.out wx (hm.x.trans hwx)
     have hx0:=hm.x
     refine rgE 16 77 ?_
     simp only [tSC,tZe,dSC,dZe,mCo,mNi]
     repeat (first
         | (apply walk_is rfl rfl rfl
            · (intro wx hwx;(with_reducible apply gq_rdW ((hl1) wx hwx));infer_instance;exact rfl;(focus (first|rfl|omega|(simp;done)|(simp;omega))))
            · (simp only [Act.put,sIB,sCS,sCZ];rfl))
         | (apply walk_is rfl rfl rfl
            · (intro wx hwx;(with_reducible apply gq_row1 ((hr1) wx hwx));infer_instance;exact rfl;exact PT.out)
            · (simp only [Act.put,sIB,sCS,sCZ];rfl))
         |(apply walk_some (KeysS ([O])) 73 (KeysS.stable _) rfl rfl rfl rfl;(intro wx hwx;exact gq_bs1 (hk1.out) (bs_run1 O lO wx) rfl))
         | (apply walk_from (T:=[(73,KeysS [O])]) rfl rfl
            · (intro wx hwx;simp only [withS];(rintro x_ ⟨p,c,rfl,hlc,hk'⟩);refine⟨rfl, ?_⟩;go_simp;exact gives_call (D2.out wx p c hlc hk'))
            · (simp only [Act.put,sIB,sCS,sCZ];rfl))
         | (apply walk_is rfl rfl rfl
            · (intro wx hwx;first|((with_reducible show qGl);first|(exact zK (hm.ext hwx)))|(go_simp;(try go_bits);first|exact gives_same|exact gives_skip|with_reducible exact gives_call (D1.out wx)|exact gives_call (D3.out wx p0 c0 hc10 (HK10.out.ext hwx) (HRT.out wx (hx0.trans hwx)))))
            · (simp only [Act.put,sIB,sCS,sCZ];rfl))
         | (apply walk_not rfl rfl rfl
            · (simp only [Act.put,sIB,sCS,sCZ];rfl)))
     intro wz hwz
     simp only [zCC,zNR]
     repeat (first|rw [fin_is]|(rw [fin_cons];intro _ _))
     rw [fin_nil]
     try (replace hm:=hm.ext hwz)
     simp only [Act.put,sIB,sCS,sCZ]
     clear hl1 hr1 hx0
     go_wp2_with (first|((((with_reducible show qSt);first|(refine zE hm ?_)));clear hm;intro w hm))
     refine rtO hm rfl rfl ⟨rfl,hm.x⟩
theorem KeyR.e {w:World}{g:Nat}{K:KeyP}(h:KeyR w g K)(j i:Int)(x:List Byte)(hx:x.length=16)(hj:j≤9223372036854775807)(hi:i≤9223372036854775807):Gives Tryz.prog 98 #[.pointer (some ⟨g,0,none⟩), .int .i64 j, .int .i64 i,A8 x] w (A8 (eZ K j i x)):=by
 by_cases hn:j< -1∨i<0
 · rw [eZ,if_pos hn];exact e_neg g j i x hx w hn
 · rw [eZ,if_neg hn]
   by_cases h0:j<0
   · rw [if_pos h0]
     obtain rfl:j= -1:=by omega
     have:=e_ten g K i.toNat x hx w h (by omega)
     rwa [Int.toNat_of_nonneg (by omega)]at this
   · rw [if_neg h0]
     have:=e_pos g K j.toNat i.toNat x hx w h (by omega) (by omega)
     rwa [Int.toNat_of_nonneg (by omega),Int.toNat_of_nonneg (by omega)]at this
theorem build_keys(gt:Nat)(a b c:List Byte)(ha:a.length=16)(hb:b.length=16)(hc:c.length=16)(w:World):(Instr.build 139 #[(0, .pointer (some ⟨gt,0,none⟩)),(1,A8 a),(2,A8 b),(3,A8 c)]).run Tryz.prog w= .ok (.agg (kcells gt ⟨a,b,c⟩).toArray) w:=by
 obtain⟨a0,a1,a2,a3,a4,a5,a6,a7,a8,a9,a10,a11,a12,a13,a14,a15,rfl⟩:=len16 a ha
 obtain⟨b0,b1,b2,b3,b4,b5,b6,b7,b8,b9,b10,b11,b12,b13,b14,b15,rfl⟩:=len16 b hb
 obtain⟨c0,c1,c2,c3,c4,c5,c6,c7,c8,c9,c10,c11,c12,c13,c14,c15,rfl⟩:=len16 c hc
 kernel_rfl
theorem RdB.drop {w:World}{a:Addr}{l:List Byte}(h:RdB w (some a) l)(k:Nat):RdB w (some (a.add k)) (l.drop k):=
 ⟨fun _=>rfl,fun i hi=>by
   simp only [List.length_drop]at hi
   have:=h.2 (k+i) (by omega)
   simp only [Option.getD_some]at this⊢
   rw [add_add,this]
   simp [List.getElem?_drop]⟩
theorem ext_ok(gt gb:Nat)(key:List Byte)(p:Option Addr)(c:Nat)(w0:World)(h0:0<key.length)(h1:key.length≤128)(hkc:key.length≤c)(hk:RdB w0 p key)(hc:CoefB w0)(hrt:Row w0 gt 88 (tcells gb mixT unmixT)):
   Calls Tryz.prog 47 #[.pointer (some ⟨gt,0,none⟩), .slice p key.length c] w0 fun e w'=>∃g,e= .returned (.tuple #[.pointer (some ⟨g,0,none⟩), .int .i64 0])∧w0.heap.size≤g∧Row w' g 139 (kcells gt (keyOf key))∧Ext w0 w':=by
 have hm:=Own.start w0
 have HC:=hid hc
 have HK:=hid hk
 have HR:=hid fun (wx:World)(h:Ext w0 wx)=>row_ext hrt h
 have OK:=hid (keyOf_ok key)
 have b1:((key.length:Int)==0)=false:=by rw [beq_eq_false_iff_ne];omega
 have b2:¬(128:Int)<(key.length:Int):=by omega
 have b3:decide ((128:Int)<(key.length:Int))=false:=decide_eq_false b2
 have lb:=keyB_length key
 have D1:=hid fun (wx:World)(a:Addr)(c:Nat)(h:RdB wx (some a) (keyB key))=>show Gives Tryz.prog 69 #[.slice (some a) 48 c] wx (A8 (blk (keyB key)))from lb ▸ oblock_any (keyB key) (some a) c wx h
 have D2:=hid fun (wx:World)(a:Addr)(c:Nat)(h:RdB wx (some a) (keyB key))=>show Gives Tryz.prog 69 #[.slice (some (a.add 16)) 32 c] wx (A8 (blk ((keyB key).drop 16)))from(show((keyB key).drop 16).length=32 by rw [List.length_drop,lb]) ▸ oblock_any ((keyB key).drop 16) (some (a.add 16)) c wx (h.drop 16)
 have D3:=hid fun (wx:World)(a:Addr)(c:Nat)(h:RdB wx (some a) (keyB key))=>show Gives Tryz.prog 69 #[.slice (some (a.add 32)) 16 c] wx (A8 (blk ((keyB key).drop 32)))from(show((keyB key).drop 32).length=16 by rw [List.length_drop,lb]) ▸ oblock_any ((keyB key).drop 32) (some (a.add 32)) c wx (h.drop 32)
 have BK:=hid (build_keys gt (blk (keyB key)) (blk ((keyB key).drop 16)) (blk ((keyB key).drop 32)) (blk_length _) (blk_length _) (blk_length _))
 have EK:Hid (keyOf key=⟨blk (keyB key),blk ((keyB key).drop 16),blk ((keyB key).drop 32)⟩):=hid rfl
 have EB:=hid (show key.length=48→keyB key=key by intro h;rw [keyB,if_pos h])
 have ES:=hid (show¬key.length=48→keyB key=sumL 48 [] key by intro h;rw [keyB,if_neg h])
 have CB:=hid (bsum_ok 48 [] none 0 key p c (by omega) (by omega) (by simp) (by omega) w0 w0 [] hc (fun w' M h=>RdB.nil _ _) (fun w' M h=>hk.ext h.x) (Own.start w0))
 generalize blk ((keyB key).drop 16)=J at*
 generalize blk ((keyB key).drop 32)=L at*
 generalize blk (keyB key)=I at*
 generalize keyB key=B at*
 generalize keyOf key=K at*
 have AD:∀(a:Addr)(n:Nat),0<n→a.add n={block:=a.block,off:=a.off+n}:=fun a n hn=>by unfold Addr.add;split<;>first|rfl|omega|(simp_all;done)
 have d2:=D2.out
 have d3:=D3.out
 simp only [AD _ 16 (by omega)]at d2
 simp only [AD _ 32 (by omega)]at d3
 replace D2:=hid d2
 replace D3:=hid d3
 have LB:=hid lb
 clear hc hk hrt lb d2 d3 AD
 by_cases h48:key.length=48
 · obtain rfl:=EB.out h48
   obtain⟨a,rfl⟩:=Option.isSome_iff_exists.1 (HK.out.1 (by omega))
   have c1:¬c=16:=by omega
   have c2:¬c=32:=by omega
   have c3:¬(c:Int)=16:=by omega
   have c4:¬(c:Int)=32:=by omega
   have c5:(48:Int)≤(c:Int):=by omega
   have c6:48≤c:=by omega
   rw [h48]
   clear h0 h1 hkc b1 b2 b3 h48 CB EB ES
   go_enter Tryz.func47,Tryz.ntmps47
   go_wp2_with fail
   have hr1:=fun wx (hwx:Ext w0 wx)=>HK.out.ext hwx
   refine region_new 11 (fun w'=>Ext _ w') 37 (by kernel_rfl) (by kernel_rfl) rfl (fun _ _ h k=>h.trans k) (drew_ext _) ?_
   simp only [tSC,tZe,dSC,dZe,mCo,mNi]
   repeat (first
       | (apply walk_some (NewS (w0.heap.size) 139 (kcells gt ⟨I,J,L⟩)) 36 (NewS.stable _ _ _) rfl rfl rfl rfl
          · (intro wx hwx;go_simp;exact gives_new (cs:=kcells gt ⟨I,J,L⟩) hwx.size))
       |(apply walk_is rfl rfl rfl;(intro wx hwx;(with_reducible apply gq_build BK.out);(first|rfl|simp [Act.eval]|kernel_rfl));(simp only [Act.put,sIB,sCS,sCZ];rfl))
       | (apply walk_is rfl rfl rfl
          · (intro wx hwx;go_simp;(try go_bits);first|exact gives_same|exact gives_skip|with_reducible exact gives_call (D1.out wx a _ (hr1 wx hwx))|with_reducible exact gives_call (D2.out wx a _ (hr1 wx hwx))|with_reducible exact gives_call (D3.out wx a _ (hr1 wx hwx)))
          · (simp only [Act.put,sIB,sCS,sCZ];rfl))
       | (apply walk_not rfl rfl rfl
          · (simp only [Act.put,sIB,sCS,sCZ];rfl)))
   intro wz hwz
   simp only [zCC,zNR]
   repeat rw [fin_is]
   rw [fin_cons];intro x36 hx36
   repeat rw [fin_is]
   rw [fin_nil];intro hap
   simp only [Act.put,sIB,sCS,sCZ]at hap⊢
   obtain⟨gk,rfl,hgk,hrk⟩:=hx36
   go_wp2
   go_ret2
   exact⟨gk,rfl,hgk,EK.out ▸ hrk,hwz⟩
 · have EBS:=ES.out h48
   have n48:((key.length:Int) !=48)=true:=by rw [bne_iff_ne];omega
   clear h0 h1 hkc h48 EB ES
   go_enter Tryz.func47,Tryz.ntmps47
   go_wp2_with fail
   refine CB.out.mono ?_
   rintro e w ⟨x,rfl,hbs,M,hmM⟩
   replace hm:=hmM.x
   rw [←EBS]at hbs
   obtain⟨px,cx,rfl,hcx,hrx⟩:=hbs
   rw [LB.out]at hcx⊢
   obtain⟨a,rfl⟩:=Option.isSome_iff_exists.1 (hrx.1 (by rw [LB.out];omega))
   have c1:¬cx=16:=by omega
   have c2:¬cx=32:=by omega
   have c3:¬(cx:Int)=16:=by omega
   have c4:¬(cx:Int)=32:=by omega
   have c5:(48:Int)≤(cx:Int):=by omega
   clear EBS CB hmM
   go_wp2_with fail
   have hr1:=fun wx (hwx:Ext w wx)=>hrx.ext hwx
   refine region_new 11 (fun w'=>Ext _ w') 37 (by kernel_rfl) (by kernel_rfl) rfl (fun _ _ h k=>h.trans k) (drew_ext _) ?_
   simp only [tSC,tZe,dSC,dZe,mCo,mNi]
   repeat (first
       | (apply walk_some (NewS (w.heap.size) 139 (kcells gt ⟨I,J,L⟩)) 36 (NewS.stable _ _ _) rfl rfl rfl rfl
          · (intro wx hwx;go_simp;exact gives_new (cs:=kcells gt ⟨I,J,L⟩) hwx.size))
       |(apply walk_is rfl rfl rfl;(intro wx hwx;(with_reducible apply gq_build BK.out);(first|rfl|simp [Act.eval]|kernel_rfl));(simp only [Act.put,sIB,sCS,sCZ];rfl))
       | (apply walk_is rfl rfl rfl
          · (intro wx hwx;go_simp;(try go_bits);first|exact gives_same|exact gives_skip|with_reducible exact gives_call (D1.out wx a _ (hr1 wx hwx))|with_reducible exact gives_call (D2.out wx a _ (hr1 wx hwx))|with_reducible exact gives_call (D3.out wx a _ (hr1 wx hwx)))
          · (simp only [Act.put,sIB,sCS,sCZ];rfl))
       | (apply walk_not rfl rfl rfl
          · (simp only [Act.put,sIB,sCS,sCZ];rfl)))
   intro wz hwz
   simp only [zCC,zNR]
   repeat rw [fin_is]
   rw [fin_cons];intro x36 hx36
   repeat rw [fin_is]
   rw [fin_nil];intro hap
   simp only [Act.put,sIB,sCS,sCZ]at hap⊢
   obtain⟨gk,rfl,hgk,hrk⟩:=hx36
   go_wp2
   go_ret2
   exact⟨gk,rfl,Nat.le_trans hm.size hgk,EK.out ▸ hrk,hm.trans hwz⟩
def rightL(key:List Byte):Bool:=decide (0<key.length)&&decide (key.length≤128)
theorem KeyR.own {w0 w:World}{L:List Blk}{g gt gb:Nat}{K:KeyP}(ok:K.Ok)(hm:Own w0 w L)(h1:Has L ⟨g,139,kcells gt K⟩)(h2:Has L ⟨gt,88,tcells gb mixT unmixT⟩):KeyR w g K:=⟨ok,gt,gb,hm.row h1,hm.row h2⟩
theorem blk_xor(a b:List Byte)(ha:a.length=16)(hb:b.length=16):blk (xorL a b)=bothL a b:=by
 have lX:(xorL a b).length=16:=by rw [xorL_length,ha,hb];rfl
 refine nth_ext (by rw [blk_length,bothL_length]) fun i hi=> ?_
 rw [blk_length]at hi
 rw [bothL_nth _ _ _ hi,blk_nth _ _ hi]
 exact xorL_getD a b i (by rw [lX];exact hi)
theorem hplus_any(a b:List Byte)(ha:a.length=16)(hb:b.length=16)(w0:World):Gives Tryz.prog 123 #[A8 a,A8 b] w0 (A8 (bothL a b)):=by
 unfold Gives
 have hm:=Own.start w0
 have C1:=hid fun (w wx:World)(p q:Option Addr)(h1:RdB wx p a)(h2:RdB wx q b)=>by
   have h:=xor_any a b p q 16 16 wx h1 h2 (by omega) (by omega)
   rw [ha,hb]at h;exact h
 have eX:=blk_xor a b ha hb
 have C2:=hid fun (wx:World)(p:Option Addr)(c:Nat)(h:RdB wx p (xorL a b))=>eX ▸ oblock_any (xorL a b) p c wx h
 have lZ:(bothL a b).length=16:=bothL_length _ _
 generalize bothL a b=Z at*
 generalize xorL a b=X at*
 have ha1:=Nat.le_of_eq ha
 have ha2:=Nat.le_of_eq ha.symm
 have hb1:=Nat.le_of_eq hb
 have hb2:=Nat.le_of_eq hb.symm
 clear eX
 go_enter Tryz.func123,Tryz.ntmps123
 go_wp2_with (first|((first|((with_reducible show qAl);first|(refine zG hm ?_))|((with_reducible show qBx);first|(refine zH hm ?_)));clear hm;(first|(have hx_:=g1;clear hx_;(first|(have hx_:=g2;clear hx_;intro gx_)|intro g2))|intro g1);intro w hm))
 have c1:=fun wx (hwx:Ext _ wx)=>C1.out wx wx _ _ ((hm.ext hwx).rdB (g:=g1) (l:=a) (by repeat (first|exact Has.hd|assumption|apply Has.tl))) ((hm.ext hwx).rdB (g:=g2) (l:=b) (by repeat (first|exact Has.hd|assumption|apply Has.tl)))
 refine rgE 4 9 ?_
 simp only [tSC,tZe,dSC,dZe,mCo,mNi]
 repeat (first
     | (apply walk_some (BytesS X) 7 (BytesS.stable _) rfl rfl rfl rfl
        · (intro wx hwx;go_simp;with_reducible exact gives_callR (c1 wx hwx)))
     | (apply walk_from (T:=[(7,BytesS X)]) rfl rfl
        · (intro wx hwx;simp only [withS];(rintro x ⟨p,c,rfl,hlc,hb'⟩);refine⟨rfl, ?_⟩;go_simp;with_reducible exact gives_call (C2.out wx p c hb'))
        · (simp only [Act.put,sIB,sCS,sCZ];rfl))
     | (apply walk_is rfl rfl rfl
        · (intro wx hwx;go_simp;(try go_bits);first|exact gives_same|exact gives_skip)
        · (simp only [Act.put,sIB,sCS,sCZ];rfl))
     | (apply walk_not rfl rfl rfl
        · (simp only [Act.put,sIB,sCS,sCZ];rfl)))
 intro wz hwz
 simp only [zCC,zNR]
 repeat (first|rw [fin_is]|(rw [fin_cons];intro _ _))
 rw [fin_nil]
 try (replace hm:=hm.ext hwz)
 simp only [Act.put,sIB,sCS,sCZ]
 clear c1
 go_wp2_with (first|((((with_reducible show qSt);first|(refine zE hm ?_)));clear hm;intro w hm))
 refine rtO hm rfl rfl ⟨rfl,hm.x⟩
def slen:Value→Nat
 | .slice _ n _=>n
 |_=>0
theorem hpart_any(kv:Value)(F:Int→List Byte→List Byte)(hF:∀m x,(F m x).length=16)(j:Int)(b:List Byte)(p:Option Addr)(c:Nat)(w0:World)(hb:RdB w0 p b)(hc:b.length≤c)(hl:b.length≤70368744177000)
   (CE:∀wx,Ext w0 wx→∀(m:Int)(x:List Byte),x.length=16→m≤9223372036854775807→Gives Tryz.prog 98 #[kv, .int .i64 j, .int .i64 m,A8 x] wx (A8 (F m x))):
   Gives Tryz.prog 124 #[kv, .int .i64 j, .slice p b.length c] w0 (A8 (partG F b)):=by
 unfold Gives
 have hm:=Own.start w0
 have HB:=hid hb
 have HE:=hid CE
 have HF:=hid hF
 have lG:=partG_length F b
 have E0:=hid (partF_length F b)
 -- the rest, with its mark
 have MK:=hid fun (wx:World)(q:Option Addr)(cq:Nat)(n:Nat)(h:RdB wx q (b.drop (16*n)))=>show GivesR Tryz.prog 139 #[.slice q (b.length-16*n) cq, .int .u8 128, .int .i64 16] wx (BytesS (marked (b.drop (16*n)) 128#8 16))from by
   have:=marked_any (b.drop (16*n)) q cq 128#8 16 wx h (by rw [List.length_drop];omega) (by omega) (by omega)
   rw [List.length_drop]at this;exact this
 by_cases h0:b.length=0
 · have eG:Hid (bothL (zer 16) (F 0 (blk (marked (b.drop (16*0)) 128#8 16)))=partG F b):=hid (by
     have hz:b.length/16=0:=by omega
     rw [partG,if_pos (.inl h0),hz,partF,blk_marked _ (by rw [List.length_drop];omega)])
   have M1:=fun wx q cq h=>MK.out wx q cq 0 h
   rw [h0]at M1
   have B1:=hid fun (wx:World)(q:Option Addr)(cq:Nat)(h:RdB wx q (marked (b.drop (16*0)) 128#8 16))=>oblock_any _ q cq wx h
   have lB:=blk_length (marked (b.drop (16*0)) 128#8 16)
   have B2:=hid fun wx hx=>HE.out wx hx 0 (blk (marked (b.drop (16*0)) 128#8 16)) lB (by omega)
   have l2:=HF.out 0 (blk (marked (b.drop (16*0)) 128#8 16))
   have lz:(zer (n:=8) 16).length=16:=zer_length
   have B3:=hid fun wx=>hplus_any (zer 16) (F 0 (blk (marked (b.drop (16*0)) 128#8 16))) lz l2 wx
   rw [eG.out]at B3
   have M2:=hid M1
   rw [h0]
   generalize F 0 (blk (marked (b.drop (16*0)) 128#8 16))=Y at*
   generalize blk (marked (b.drop (16*0)) 128#8 16)=Z at*
   generalize marked (b.drop (16*0)) 128#8 16=M at*
   generalize partG F b=D at*
   have HB0:Hid (∀wx,Ext w0 wx→RdB wx p (b.drop (16*0))):=hid fun wx h=>HB.out.ext h
   clear M1 h0 hl hc CE hb hF eG
   go_enter Tryz.func124,Tryz.ntmps124
   go_wp2_with (first|((first|((with_reducible show qAl);first|(refine zG hm ?_)));clear hm;(first|(have hx_:=g1;clear hx_;intro gx_)|intro g1);intro w hm))
   refine wp_scope_goto 0 (fun a_ w_=>∃(gb:Nat)(u3 u4 u5 u8 u9 u10 u11 u12 u13 u14 u15 u16 u17 u18 u19 u20 u21 u22 u23 u24 u25 u26 u27 u28 u29 u30 u31 u32 u33 u34 u35 u36 u37 u38:Value),a_={tmps:= #[kv,(.int .i64 j),(.slice p 0 c),u3,u4,u5,(.pointer (some ⟨g1,0,none⟩)),(.pointer (some ⟨gb,0,none⟩)),u8,u9,u10,u11,u12,u13,u14,u15,u16,u17,u18,u19,u20,u21,u22,u23,u24,u25,u26,u27,u28,u29,u30,u31,u32,u33,u34,u35,u36,u37,u38],defers:=[]}∧Own w0 w_ [⟨gb,132,(zer 16).map v8⟩,⟨g1,132,(zer 16).map v8⟩]) (fun _ _=>0) rfl ?_ ?_
   · clear hm
     rintro a' w ⟨gb,u3,u4,u5,u8,u9,u10,u11,u12,u13,u14,u15,u16,u17,u18,u19,u20,u21,u22,u23,u24,u25,u26,u27,u28,u29,u30,u31,u32,u33,u34,u35,u36,u37,u38,rfl,hm⟩
     go_wp2_with fail
     have hx0:=hm.x
     have c1:=fun wx (hwx:Ext w wx)=>M2.out wx p c (HB0.out wx (hx0.trans hwx))
     refine rgE 8 39 ?_
     simp only [tSC,tZe,dSC,dZe,mCo,mNi]
     repeat (first
         | (apply walk_some (BytesS M) 35 (BytesS.stable _) rfl rfl rfl rfl
            · (intro wx hwx;go_simp;with_reducible exact gives_callR (c1 wx hwx)))
         | (apply walk_from (T:=[(35,BytesS M)]) rfl rfl
            · (intro wx hwx;simp only [withS];(rintro x ⟨q,cq,rfl,hlc,hb'⟩);refine⟨rfl, ?_⟩;go_simp;with_reducible exact gives_call (B1.out wx q cq hb'))
            · (simp only [Act.put,sIB,sCS,sCZ];rfl))
         | (apply walk_is rfl rfl rfl
            · (intro wx hwx;first|((with_reducible show qGl);first|(exact zK (hm.ext hwx)))|(go_simp;(try go_bits);first|exact gives_same|exact gives_skip|with_reducible exact gives_call (B2.out wx (hx0.trans hwx))|with_reducible exact gives_call (B3.out wx)))
            · (simp only [Act.put,sIB,sCS,sCZ];rfl))
         | (apply walk_not rfl rfl rfl
            · (simp only [Act.put,sIB,sCS,sCZ];rfl)))
     intro wz hwz
     simp only [zCC,zNR]
     repeat (first|rw [fin_is]|(rw [fin_cons];intro _ _))
     rw [fin_nil]
     try (replace hm:=hm.ext hwz)
     simp only [Act.put,sIB,sCS,sCZ]
     clear c1 hx0
     go_wp2_with (first|((((with_reducible show qSt);first|(refine zE hm ?_)));clear hm;intro w hm))
     simp only [Exit.jump]
     refine rtO hm rfl rfl ⟨rfl,hm.x⟩
   · intro hp
     go_wp2_with (first|((first|((with_reducible show qAl);first|(refine zG hm ?_)));clear hm;(first|(have hx_:=g1;clear hx_;intro gx_)|intro g1);intro w hm))
     go_step3
     exact⟨rfl,⟨_,_,_,_,_,_,_,_,_,_,_,_,_,_,_,_,_,_,_,_,_,_,_,_,_,_,_,_,_,_,_,_,_,_,_,rfl,hm⟩⟩
 · have hz0 : ((b.length:Int)==0)=false:=by rw [beq_eq_false_iff_ne];omega
   have HN0:=hid h0
   clear CE hb hF
   go_enter Tryz.func124,Tryz.ntmps124
   go_wp2_with (first|((first|((with_reducible show qAl);first|(refine zG hm ?_)));clear hm;(first|(have hx_:=g1;clear hx_;intro gx_)|intro g1);intro w hm))
   refine wp_scope_goto 1 (fun a_ w_=>∃(n m cq:Nat)(q:Option Addr)(gb:Nat)(u3 u4 u5 u9 u10 u11 u12 u13 u14 u15 u16 u17 u18 u19 u20 u21 u22 u23 u24 u25 u26 u27 u28 u29 u30 u31 u32 u33 u34 u35 u36 u37 u38:Value),a_={tmps:= #[kv,(.int .i64 j),(.slice q m cq),u3,u4,u5,(.pointer (some ⟨g1,0,none⟩)),(.pointer (some ⟨gb,0,none⟩)),(.int .i64 (n:Int)),u9,u10,u11,u12,u13,u14,u15,u16,u17,u18,u19,u20,u21,u22,u23,u24,u25,u26,u27,u28,u29,u30,u31,u32,u33,u34,u35,u36,u37,u38],defers:=[]}∧m=b.length-16*n∧16*n≤b.length∧m≤cq∧RdB w0 q (b.drop (16*n))∧Own w0 w_ [⟨gb,132,(partF F b n).map v8⟩,⟨g1,132,(zer 16).map v8⟩]) (fun a_ _=>slen (a_.tmps.getD 2 undef)) rfl ?_ ?_
   · clear hm
     rintro a' w ⟨n,m,cq,q,gb,u3,u4,u5,u9,u10,u11,u12,u13,u14,u15,u16,u17,u18,u19,u20,u21,u22,u23,u24,u25,u26,u27,u28,u29,u30,u31,u32,u33,u34,u35,u36,u37,u38,rfl,⟨hmn,hnb,hmc,hrd,hm⟩⟩
     have HRD:=hid hrd
     have HMN:=hid hmn
     have HNB:=hid hnb
     have lP:=E0.out n
     by_cases h16:16≤m
     · obtain ⟨a,rfl⟩:=Option.isSome_iff_exists.1 (hrd.1 (by rw [List.length_drop];omega))
       have d1:decide ((16:Int)≤(m:Int))=true:=decide_eq_true (by omega)
       have d2:decide ((m:Int)≥16)=true:=decide_eq_true (by omega)
       have d3:(16:Int)≤(m:Int):=by omega
       have B1:=hid fun (wx:World)(h:RdB wx (some a) (b.drop (16*n)))=>show Gives Tryz.prog 69 #[.slice (some a) m cq] wx (A8 (blk (b.drop (16*n))))from by
         have:=oblock_any (b.drop (16*n)) (some a) cq wx h
         rwa [List.length_drop,←HMN.out]at this
       have lB:=blk_length (b.drop (16*n))
       have B2:=hid fun wx hx=>HE.out wx hx ((n:Int)+1) (blk (b.drop (16*n))) lB (by omega)
       have l2:=HF.out ((n:Int)+1) (blk (b.drop (16*n)))
       have b3:=fun wx=>hplus_any (partF F b n) (F ((n:Int)+1) (blk (b.drop (16*n)))) lP l2 wx
       rw [show bothL (partF F b n) (F ((n:Int)+1) (blk (b.drop (16*n))))=partF F b (n+1)from rfl]at b3
       have B3:=hid b3
       have lP2:=E0.out (n+1)
       have w1:(n:Int)+1≤9223372036854775807:=by omega
       have HRX:=hid fun (wx:World)(h:Ext w0 wx)=>hrd.ext h
       have AD:a.add 16={block:=a.block,off:=a.off+16}:=by unfold Addr.add;split<;>first|rfl|omega|(simp_all;done)
       have HD:Hid (RdB w0 (some {block:=a.block,off:=a.off+16}) (b.drop (16*(n+1)))):=hid (by
         have:=hrd.drop 16
         rw [AD,List.drop_drop]at this
         rwa [show 16*(n+1)=16*n+16 by omega])
       have HD0:Hid (m=16→RdB w0 (some a) (b.drop (16*(n+1)))):=hid fun h=>by
         rw [List.drop_eq_nil_of_le (by omega)];exact RdB.nil _ _
       clear b3 hrd AD hnb
       generalize F ((n:Int)+1) (blk (b.drop (16*n)))=Y at*
       generalize blk (b.drop (16*n))=Z at*
       generalize hP2:partF F b (n+1)=P2 at*
       generalize partF F b n=P1 at*
       have HP2:=hid hP2
       clear hP2
       by_cases hcq:cq=16
       · obtain rfl:m=16:=by omega
         subst hcq
         clear hmn
         go_wp2_with fail
         have hx0:=hm.x
         refine rgE 8 39 ?_
         simp only [tSC,tZe,dSC,dZe,mCo,mNi]
         repeat (first
             | (apply walk_is rfl rfl rfl
                · (intro wx hwx;first|((with_reducible show qGl);first|(exact zK (hm.ext hwx)))|(go_simp;(try go_bits);first|exact gives_same|exact gives_skip|with_reducible exact gives_call (B1.out wx (HRX.out wx (hx0.trans hwx)))|with_reducible exact gives_call (B2.out wx (hx0.trans hwx))|with_reducible exact gives_call (B3.out wx)))
                · (simp only [Act.put,sIB,sCS,sCZ];rfl))
             | (apply walk_not rfl rfl rfl
                · (simp only [Act.put,sIB,sCS,sCZ];rfl)))
         intro wz hwz
         simp only [zCC,zNR]
         repeat (first|rw [fin_is]|(rw [fin_cons];intro _ _))
         rw [fin_nil]
         try (replace hm:=hm.ext hwz)
         simp only [Act.put,sIB,sCS,sCZ]
         clear hx0
         go_wp2_with (first|((((with_reducible show qSt);first|(refine zE hm ?_)));clear hm;intro w hm))
         go_step3
         exact⟨rfl,⟨_,_,_,_,_,_,_,_,_,_,_,_,_,_,_,_,_,_,_,_,_,_,_,_,_,_,_,_,_,_,_,_,_,_,_,_,_,_,rfl,⟨by have:=HMN.out;show _=b.length-16*(n+1);omega,by have:=HMN.out;show 16*(n+1)≤b.length;omega,by omega,HD0.out (by first|trivial|rfl),by rw [HP2.out];exact hm⟩⟩,by simp [slen]⟩
       · have c1:¬(cq:Int)=16:=by omega
         clear hmn
         go_wp2_with fail
         have hx0:=hm.x
         refine rgE 8 39 ?_
         simp only [tSC,tZe,dSC,dZe,mCo,mNi]
         repeat (first
             | (apply walk_is rfl rfl rfl
                · (intro wx hwx;first|((with_reducible show qGl);first|(exact zK (hm.ext hwx)))|(go_simp;(try go_bits);first|exact gives_same|exact gives_skip|with_reducible exact gives_call (B1.out wx (HRX.out wx (hx0.trans hwx)))|with_reducible exact gives_call (B2.out wx (hx0.trans hwx))|with_reducible exact gives_call (B3.out wx)))
                · (simp only [Act.put,sIB,sCS,sCZ];rfl))
             | (apply walk_not rfl rfl rfl
                · (simp only [Act.put,sIB,sCS,sCZ];rfl)))
         intro wz hwz
         simp only [zCC,zNR]
         repeat (first|rw [fin_is]|(rw [fin_cons];intro _ _))
         rw [fin_nil]
         try (replace hm:=hm.ext hwz)
         simp only [Act.put,sIB,sCS,sCZ]
         clear hx0
         go_wp2_with (first|((((with_reducible show qSt);first|(refine zE hm ?_)));clear hm;intro w hm))
         go_step3
         exact⟨rfl,⟨_,_,_,_,_,_,_,_,_,_,_,_,_,_,_,_,_,_,_,_,_,_,_,_,_,_,_,_,_,_,_,_,_,_,_,_,_,_,rfl,⟨by have:=HMN.out;show _=b.length-16*(n+1);omega,by have:=HMN.out;show 16*(n+1)≤b.length;omega,by omega,HD.out,by rw [HP2.out];exact hm⟩⟩,by simp [slen];omega⟩
     · have d1:decide ((16:Int)≤(m:Int))=false:=decide_eq_false (by omega)
       have d2:decide ((m:Int)≥16)=false:=decide_eq_false (by omega)
       have d3:¬(16:Int)≤(m:Int):=by omega
       have hn:b.length/16=n:=by omega
       by_cases hm0:m=0
       · have eG:partF F b n=partG F b:=by rw [partG,if_neg (by omega),hn]
         rw [eG]at hm lP
         subst hm0
         clear hmn hnb hrd eG
         go_wp2_with (first|((with_reducible show qLd);first|(refine zB hm ?_))|((((with_reducible show qSt);first|(refine zE hm ?_)));clear hm;intro w hm))
         simp only [Exit.jump]
         refine rtO hm rfl rfl ⟨rfl,hm.x⟩
       · have e0:((m:Int)==0)=false:=by rw [beq_eq_false_iff_ne];omega
         have eG:bothL (partF F b n) (F 0 (blk (marked (b.drop (16*n)) 128#8 16)))=partG F b:=by
           rw [partG,if_pos (.inr (by omega)),hn,blk_marked _ (by rw [List.length_drop];omega)]
         have m1:=fun wx h=>MK.out wx q cq n h
         rw [←hmn]at m1
         have M1:=hid m1
         have B1:=hid fun (wx:World)(q:Option Addr)(cq:Nat)(h:RdB wx q (marked (b.drop (16*n)) 128#8 16))=>oblock_any _ q cq wx h
         have lB:=blk_length (marked (b.drop (16*n)) 128#8 16)
         have B2:=hid fun wx hx=>HE.out wx hx 0 (blk (marked (b.drop (16*n)) 128#8 16)) lB (by omega)
         have l2:=HF.out 0 (blk (marked (b.drop (16*n)) 128#8 16))
         have b3:=fun wx=>hplus_any (partF F b n) (F 0 (blk (marked (b.drop (16*n)) 128#8 16))) lP l2 wx
         rw [eG]at b3
         have B3:=hid b3
         have HRX:=hid fun (wx:World)(h:Ext w0 wx)=>hrd.ext h
         clear b3 hrd m1 eG hmn hnb hm0
         generalize F 0 (blk (marked (b.drop (16*n)) 128#8 16))=Y at*
         generalize blk (marked (b.drop (16*n)) 128#8 16)=Z at*
         generalize marked (b.drop (16*n)) 128#8 16=M at*
         generalize partF F b n=P1 at*
         go_wp2_with fail
         go_step3
         go_wp2_with fail
         have hx0:=hm.x
         have c1:=fun wx (hwx:Ext w wx)=>M1.out wx (HRX.out wx (hx0.trans hwx))
         refine rgE 8 39 ?_
         simp only [tSC,tZe,dSC,dZe,mCo,mNi]
         repeat (first
             | (apply walk_some (BytesS M) 35 (BytesS.stable _) rfl rfl rfl rfl
                · (intro wx hwx;go_simp;with_reducible exact gives_callR (c1 wx hwx)))
             | (apply walk_from (T:=[(35,BytesS M)]) rfl rfl
                · (intro wx hwx;simp only [withS];(rintro x ⟨q',cq',rfl,hlc,hb'⟩);refine⟨rfl, ?_⟩;go_simp;with_reducible exact gives_call (B1.out wx q' cq' hb'))
                · (simp only [Act.put,sIB,sCS,sCZ];rfl))
             | (apply walk_is rfl rfl rfl
                · (intro wx hwx;first|((with_reducible show qGl);first|(exact zK (hm.ext hwx)))|(go_simp;(try go_bits);first|exact gives_same|exact gives_skip|with_reducible exact gives_call (B2.out wx (hx0.trans hwx))|with_reducible exact gives_call (B3.out wx)))
                · (simp only [Act.put,sIB,sCS,sCZ];rfl))
             | (apply walk_not rfl rfl rfl
                · (simp only [Act.put,sIB,sCS,sCZ];rfl)))
         intro wz hwz
         simp only [zCC,zNR]
         repeat (first|rw [fin_is]|(rw [fin_cons];intro _ _))
         rw [fin_nil]
         try (replace hm:=hm.ext hwz)
         simp only [Act.put,sIB,sCS,sCZ]
         clear c1 hx0
         go_wp2_with (first|((((with_reducible show qSt);first|(refine zE hm ?_)));clear hm;intro w hm))
         simp only [Exit.jump]
         refine rtO hm rfl rfl ⟨rfl,hm.x⟩
   · intro hp
     go_wp2_with (first|((first|((with_reducible show qAl);first|(refine zG hm ?_)));clear hm;(first|(have hx_:=g1;clear hx_;intro gx_)|intro g1);intro w hm))
     go_step3
     rename_i hK
     exact hK _ _ (hp _ _ ⟨_,_,_,_,_,_,_,_,_,_,_,_,_,_,_,_,_,_,_,_,_,_,_,_,_,_,_,_,_,_,_,_,_,_,_,_,_,_,rfl,⟨rfl,Nat.zero_le _,hc,HB.out,hm⟩⟩)
theorem slo_rdZ {w0 w:World}{M R:List Blk}{p:Option Addr}{n c:Nat}{e:TypeId}{l:List Byte}(h:SlO M e 1 (.slice p n c) n (l.map v8))(hm:Own w0 w (M++R)):RdB w p l:=by
 have hl:=h.1
 rw [List.length_map,Nat.mul_one]at hl
 obtain⟨_,_,hv,_,_,h0,hcell⟩:=h.cells hm
 cases hv
 refine⟨fun hp=>h0 (by omega),fun i hi=> ?_⟩
 obtain⟨a,rfl,ha⟩:=hcell i (v8 (l.getD i 0)) (by rw [List.getElem?_map,List.getElem?_eq_getElem hi,List.getD_eq_getElem?_getD,List.getElem?_eq_getElem hi];rfl)
 exact ha
end Go.Proofs.YtneacgpmjlocjaaGreatDoor
