/-
  Texts of the program, walked, and plain ones. Conditions: those written in each theorem.
-/
import Derived.Test.YtneacgpmjlocjaaGreatDoorZTopText0
import Derived.Test.YtneacgpmjlocjaaGreatDoorZTopText11
import Derived.Test.YtneacgpmjlocjaaGreatDoorZTopText17
import Derived.Test.YtneacgpmjlocjaaGreatDoorZTopText12
set_option linter.unusedSimpArgs false
set_option linter.unusedVariables false
set_option maxHeartbeats 16000000
open Go.Lib (hid)
namespace Go.Proofs.YtneacgpmjlocjaaGreatDoor
open Go Go.RowKit
set_option maxRecDepth 100000
theorem tplus_any(ks:List (List Byte))(p:Option Addr)(c:Nat)(w0:World)(hk:RdK w0 p 16 ks)(hc:ks.length≤c)(hcm:ks.length≤70368744177664):Gives Tryz.prog 134 #[.slice p ks.length c] w0 (A8 (plusL (zer 16) ks)):=by
 unfold Gives
 have hm:=Own.start w0
 have HK:=hid hk
 have HZ:=hid (show(zer (n:=8) 16).length=16 from zer_length)
 clear hk
 go_enter Tryz.func134,Tryz.ntmps134
 go_wp2_with (first|((first|((with_reducible show qAl);first|(refine zG hm ?_)));clear hm;(first|(have hx_:=g1;clear hx_;(first|(have hx_:=g2;clear hx_;(first|(have hx_:=g3;clear hx_;intro gx_)|intro g3))|intro g2))|intro g1);intro w hm))
 go_loopw [9] (fun i wr=>∃k:Nat,k≤ks.length∧i= .int .i64 k∧Own w0 wr [⟨g2,132,(plusL (zer 16) (ks.take k)).map v8⟩,⟨g1,132,(zer 16).map v8⟩]) (fun i _=>ks.length-(intOf i).toNat)
 case atStart=>exact⟨0,by omega,rfl,hm⟩
 case round =>
   obtain⟨k,hk,rfl,hm⟩:=hrel
   have hB:=plusL_length (ks.take k) (zer 16) HZ.out
   by_cases hlt:k<ks.length
   · have hd : decide ((k:Int)<(ks.length:Int))=true:=decide_eq_true (by omega)
     have hd2:(k:Int)<(ks.length:Int):=by omega
     obtain⟨a,rfl⟩:=HK.out.addr (by omega) (by omega)
     obtain⟨hK,hKl⟩:=HK.out.at (by omega) k hlt
     have hS:=plusL_take (zer 16) ks k hlt
     simp only [Option.getD_some]at hK
     generalize plusL (zer 16) (ks.take k)=B at*
     generalize ks.getD k []=K at*
     have HS:=hid hS
     have HK2:=hid hK
     have ES:Hid (B=part 16 0 (fun i=>nth B i^^^nth K i) (nth B)):=hid (part_start hB)
     have EE:Hid (part 16 16 (fun i=>nth B i^^^nth K i) (nth B)=bothL B K):=hid part_all
     have hK1:=Nat.le_of_eq hKl
     have hK2':=Nat.le_of_eq hKl.symm
     clear hK hS
     go_wp2_with (first|((with_reducible apply wq_rdW (HK2.out.ext hm.x));exact rfl;infer_instance;exact rfl;exact hKl)|((((with_reducible show qSt);first|(refine zE hm ?_)));clear hm;intro w hm)|((first|((with_reducible show qAl);first|(refine zG hm ?_)));clear hm;(first|(have hx_:=g1;clear hx_;(first|(have hx_:=g2;clear hx_;(first|(have hx_:=g3;clear hx_;intro gx_)|intro g3))|intro g2))|intro g1);intro w hm))
     rw [ES.out]at hm
     go_loopw [13] (fun i wr=>∃j:Nat,j≤16∧i= .int .i64 j∧Own w0 wr [⟨g3,132,K.map v8⟩,⟨g2,132,(part 16 j (fun i=>nth B i^^^nth K i) (nth B)).map v8⟩,⟨g1,132,(zer 16).map v8⟩]) (fun i _=>16-(intOf i).toNat)
     case atStart=>exact⟨0,by omega,rfl,hm⟩
     case round =>
       obtain⟨j,hj,rfl,hm⟩:=hrel
       by_cases hjl:j<16
       · have hj1:decide ((j:Int)<16)=true:=decide_eq_true (by omega)
         have hj2:(j:Int)<16:=by omega
         have EJ:Hid (setN (part 16 j (fun i=>nth B i^^^nth K i) (nth B)) j (nth (part 16 j (fun i=>nth B i^^^nth K i) (nth B)) j^^^nth K j)=part 16 (j+1) (fun i=>nth B i^^^nth K i) (nth B)):=hid (by
           rw [nth_part_ge hjl (Nat.le_refl _)];exact part_set (f:=fun i=>nth B i^^^nth K i) hjl)
         have lJ:(part 16 j (fun i=>nth B i^^^nth K i) (nth B)).length=16:=part_length
         generalize part 16 j (fun i=>nth B i^^^nth K i) (nth B)=C at*
         go_wp2_with fail
         refine rgE 8 27 ?_
         simp only [tSC,tZe,dSC,dZe,mCo,mNi]
         repeat (first
             | (apply walk_is rfl rfl rfl
                · (intro wx hwx;first|((with_reducible show qGl);first|(exact zJ (hm.ext hwx)))|(go_simp;(try go_bits);first|exact gives_same|exact gives_skip))
                · (simp only [Act.put,sIB,sCS,sCZ];rfl))
             | (apply walk_not rfl rfl rfl
                · (simp only [Act.put,sIB,sCS,sCZ];rfl)))
         intro wz hwz
         simp only [zCC,zNR]
         repeat (first|rw [fin_is]|(rw [fin_cons];intro _ _))
         rw [fin_nil]
         try (replace hm:=hm.ext hwz)
         simp only [Act.put,sIB,sCS,sCZ]
         go_wp2_with (first|((((with_reducible show qSt);first|(refine zD hm ?_)));clear hm;intro w hm))
         go_roundw
         case rel=>
           rw [EJ.out]at hm
           exact⟨j+1,by omega,by go_num,hm⟩
         case measure=>simp [intOf]<;>omega
       · obtain rfl:j=16:=by omega
         have hj1:decide (((16:Nat):Int)<16)=false:=decide_eq_false (by omega)
         rw [EE.out]at hm
         go_wp2_with fail
         go_roundw
         case rel=>exact⟨k+1,by omega,by go_num,by rw [HS.out];exact hm.drop⟩
         case measure=>simp [intOf]<;>omega
   · obtain rfl:k=ks.length:=by omega
     have hd:decide ((ks.length:Int)<(ks.length:Int))=false:=decide_eq_false (by omega)
     rw [List.take_length]at hm hB
     go_wp2_with (first|((with_reducible show qLd);first|(refine zB hm ?_))|((((with_reducible show qSt);first|(refine zE hm ?_)));clear hm;intro w hm))
     refine rtO hm rfl rfl ⟨rfl,hm.x⟩
theorem tplus_two(a b:List Byte)(ha:a.length=16)(p:Option Addr)(c:Nat)(w0:World)(hk:RdK w0 p 16 [a,b])(hc:2≤c):Gives Tryz.prog 134 #[.slice p 2 c] w0 (A8 (bothL a b)):=by
 have:=tplus_any [a,b] p c w0 hk hc (by simp)
 rwa [show plusL (zer 16) [a,b]=bothL a b from by show bothL (bothL (zer 16) a) b=_;rw [zer_bothL _ ha]]at this
theorem tplus_three(a b d:List Byte)(ha:a.length=16)(p:Option Addr)(c:Nat)(w0:World)(hk:RdK w0 p 16 [a,b,d])(hc:3≤c):Gives Tryz.prog 134 #[.slice p 3 c] w0 (A8 (bothL (bothL a b) d)):=by
 have:=tplus_any [a,b,d] p c w0 hk hc (by simp)
 rwa [show plusL (zer 16) [a,b,d]=bothL (bothL a b) d from by show bothL (bothL (bothL (zer 16) a) b) d=_;rw [zer_bothL _ ha]]at this
theorem xor_twice(a b:List Byte)(h:a.length≤b.length):xorL (xorL a b) b=a:=by
 apply List.ext_getElem
 · simp [xorL_length];omega
 · intro i h1 h2
   simp [xorL,BitVec.xor_assoc]
def glueF(G:Nat→List Byte):Nat→List Byte
 |0=>[]
 |k+1=>glueF G k++G k
def sumG(G:Nat→List Byte):Nat→List Byte
 |0=>zer 16
 |k+1=>bothL (sumG G k) (G k)
theorem sumG_length(G:Nat→List Byte):∀n,(sumG G n).length=16
 |0=>zer_length
 |_+1=>bothL_length _ _
theorem glueF_length(G:Nat→List Byte)(hG:∀k,(G k).length=32):∀n,(glueF G n).length=32*n
 |0=>rfl
 |n+1=>by rw [glueF,List.length_append,glueF_length G hG n,hG];omega
theorem glueF_ext(G H:Nat→List Byte):∀n,(∀k,k<n→G k=H k)→glueF G n=glueF H n
 |0,_=>rfl
 |n+1,h=>by rw [glueF,glueF,glueF_ext G H n fun k hk=>h k (by omega),h n (by omega)]
theorem sumG_ext(G H:Nat→List Byte):∀n,(∀k,k<n→G k=H k)→sumG G n=sumG H n
 |0,_=>rfl
 |n+1,h=>by rw [sumG,sumG,sumG_ext G H n fun k hk=>h k (by omega),h n (by omega)]
theorem glueF_at(G:Nat→List Byte)(hG:∀k,(G k).length=32)(k:Nat):∀n,k<n→((glueF G n).drop (32*k)).take 32=G k
 |0,h=>by omega
 | n +1,h=>by
   have hl:=glueF_length G hG n
   by_cases e:k=n
   · subst e
     rw [glueF,List.drop_append_of_le_length (by omega),List.drop_eq_nil_of_le (by omega),List.nil_append,List.take_of_length_le (by rw [hG];omega)]
   · rw [glueF,List.drop_append_of_le_length (by omega),List.take_append_of_le_length (by rw [List.length_drop];omega),glueF_at G hG k n (by omega)]
def fstB(ps:List Byte)(k:Nat):List Byte:=(ps.drop (32*k)).take 16
def sndB(ps:List Byte)(k:Nat):List Byte:=(ps.drop (32*k+16)).take 16
theorem fstB_of(ps:List Byte)(k:Nat):fstB ps k=(((ps.drop (32*k)).take 32)).take 16:=by rw [fstB,List.take_take];rfl
theorem sndB_of(ps:List Byte)(k:Nat):sndB ps k=(((ps.drop (32*k)).take 32)).drop 16:=by
 rw [sndB,List.drop_take,List.drop_drop]
theorem fst_glue(G:Nat→List Byte)(hG:∀k,(G k).length=32)(k n:Nat)(h:k<n):fstB (glueF G n) k=(G k).take 16:=by rw [fstB_of,glueF_at G hG k n h]
theorem snd_glue(G:Nat→List Byte)(hG:∀k,(G k).length=32)(k n:Nat)(h:k<n):sndB (glueF G n) k=(G k).drop 16:=by rw [sndB_of,glueF_at G hG k n h]
theorem fstB_length(ps:List Byte)(k:Nat)(h:32*k+16≤ps.length):(fstB ps k).length=16:=by rw [fstB,List.length_take,List.length_drop];omega
theorem sndB_length(ps:List Byte)(k:Nat)(h:32*k+32≤ps.length):(sndB ps k).length=16:=by rw [sndB,List.length_take,List.length_drop];omega
theorem glue_take(ps:List Byte):∀n,32*n≤ps.length→glueF (fun k=>fstB ps k++sndB ps k) n=ps.take (32*n)
 |0,_=>rfl
 | n +1,h=>by
   have e:fstB ps n++sndB ps n=(ps.drop (32*n)).take 32:=by
     rw [fstB_of,sndB_of,List.take_append_drop]
   rw [glueF,glue_take ps n (by omega),e,show 32*(n+1)=32*n+32 by omega,List.take_add]
theorem glue_all(ps:List Byte)(n:Nat)(h:ps.length=32*n):glueF (fun k=>fstB ps k++sndB ps k) n=ps:=by
 rw [glue_take ps n (by omega),List.take_of_length_le (by omega)]
section
variable (F:Int→Int→List Byte→List Byte)
def wF(ps:List Byte)(k:Nat):List Byte:=bothL (fstB ps k) (F 1 ((k:Int)+1) (sndB ps k))
def xF(ps:List Byte)(k:Nat):List Byte:=bothL (sndB ps k) (F 0 0 (wF F ps k))
def wxF(ps:List Byte)(k:Nat):List Byte:=wF F ps k++xF F ps k
def yF(z qs:List Byte)(k:Nat):List Byte:=bothL (fstB qs k) (F 2 ((k:Int)+1) z)
def vF(z qs:List Byte)(k:Nat):List Byte:=bothL (sndB qs k) (F 2 ((k:Int)+1) z)
def secF(z qs:List Byte)(k:Nat):List Byte:=bothL (yF F z qs k) (F 0 0 (vF F z qs k))
def firF(z qs:List Byte)(k:Nat):List Byte:=bothL (vF F z qs k) (F 1 ((k:Int)+1) (secF F z qs k))
def fsF(z qs:List Byte)(k:Nat):List Byte:=firF F z qs k++secF F z qs k
theorem wF_length(ps:List Byte)(k:Nat):(wF F ps k).length=16:=bothL_length _ _
theorem xF_length(ps:List Byte)(k:Nat):(xF F ps k).length=16:=bothL_length _ _
theorem yF_length(z qs:List Byte)(k:Nat):(yF F z qs k).length=16:=bothL_length _ _
theorem vF_length(z qs:List Byte)(k:Nat):(vF F z qs k).length=16:=bothL_length _ _
theorem secF_length(z qs:List Byte)(k:Nat):(secF F z qs k).length=16:=bothL_length _ _
theorem firF_length(z qs:List Byte)(k:Nat):(firF F z qs k).length=16:=bothL_length _ _
theorem wxF_length(ps:List Byte)(k:Nat):(wxF F ps k).length=32:=by rw [wxF,List.length_append,wF_length,xF_length]
theorem fsF_length(z qs:List Byte)(k:Nat):(fsF F z qs k).length=32:=by rw [fsF,List.length_append,firF_length,secF_length]
def tailL(u v:List Byte):List Byte:=
 if u.length=0 then zer 16 else if u.length=16 then bothL (F 0 4 u) (F 0 5 (blk (v++[128#8])))else F 0 4 (blk (u++[128#8]))
theorem tailL_length(hF:∀j m x,(F j m x).length=16)(u v:List Byte):(tailL F u v).length=16:=by
 unfold tailL
 split
 · exact zer_length
 · split
   · exact bothL_length _ _
   · exact hF _ _ _
end
theorem app16 {a b:List Byte}(ha:a.length=16):(a++b).take 16=a∧(a++b).drop 16=b:=by
 constructor
 · rw [List.take_append_of_le_length (by omega),List.take_of_length_le (by omega)]
 · rw [List.drop_append_of_le_length (by omega),List.drop_eq_nil_of_le (by omega),List.nil_append]
section
variable (F:Int→Int→List Byte→List Byte)
theorem fst_fs(z qs:List Byte)(k n:Nat)(h:k<n):fstB (glueF (fsF F z qs) n) k=firF F z qs k:=by
 rw [fst_glue _ (fsF_length F z qs) k n h,fsF,(app16 (firF_length F z qs k)).1]
theorem snd_fs(z qs:List Byte)(k n:Nat)(h:k<n):sndB (glueF (fsF F z qs) n) k=secF F z qs k:=by
 rw [snd_glue _ (fsF_length F z qs) k n h,fsF,(app16 (firF_length F z qs k)).2]
theorem fst_wx(ps:List Byte)(k n:Nat)(h:k<n):fstB (glueF (wxF F ps) n) k=wF F ps k:=by
 rw [fst_glue _ (wxF_length F ps) k n h,wxF,(app16 (wF_length F ps k)).1]
theorem snd_wx(ps:List Byte)(k n:Nat)(h:k<n):sndB (glueF (wxF F ps) n) k=xF F ps k:=by
 rw [snd_glue _ (wxF_length F ps) k n h,wxF,(app16 (wF_length F ps k)).2]
theorem w_back(z qs:List Byte)(k n:Nat)(h:k<n):wF F (glueF (fsF F z qs) n) k=vF F z qs k:=by
 rw [wF,fst_fs F z qs k n h,snd_fs F z qs k n h,firF,both_back _ _ (vF_length F z qs k)]
theorem x_back(z qs:List Byte)(k n:Nat)(h:k<n):xF F (glueF (fsF F z qs) n) k=yF F z qs k:=by
 rw [xF,w_back F z qs k n h,snd_fs F z qs k n h,secF,both_back _ _ (yF_length F z qs k)]
section
variable (z ps:List Byte) (n:Nat)
def oneP:List Byte:=glueF (wxF F ps) n
def twoP:List Byte:=glueF (fsF F z (oneP F ps n)) n
theorem oneP_length:(oneP F ps n).length=32*n:=glueF_length _ (wxF_length F ps) n
theorem twoP_length:(twoP F z ps n).length=32*n:=glueF_length _ (fsF_length F z _) n
theorem y_back(k:Nat)(h:k<n):yF F z (oneP F (twoP F z ps n) n) k=xF F ps k:=by
 rw [yF,oneP,fst_wx F _ k n h,twoP,w_back F z _ k n h,vF,both_back _ _ (by rw [oneP,snd_wx F ps k n h];exact xF_length F ps k),oneP,snd_wx F ps k n h]
theorem v_back(k:Nat)(h:k<n):vF F z (oneP F (twoP F z ps n) n) k=wF F ps k:=by
 rw [vF,oneP,snd_wx F _ k n h,twoP,x_back F z _ k n h,yF,both_back _ _ (by rw [oneP,fst_wx F ps k n h];exact wF_length F ps k),oneP,fst_wx F ps k n h]
theorem sec_back(k:Nat)(h:k<n)(hl:ps.length=32*n):secF F z (oneP F (twoP F z ps n) n) k=sndB ps k:=by
 rw [secF,y_back F z ps n k h,v_back F z ps n k h,xF,both_back _ _ (sndB_length ps k (by omega))]
theorem fir_back(k:Nat)(h:k<n)(hl:ps.length=32*n):firF F z (oneP F (twoP F z ps n) n) k=fstB ps k:=by
 rw [firF,sec_back F z ps n k h hl,v_back F z ps n k h,wF,both_back _ _ (fstB_length ps k (by omega))]
theorem twoP_back(hl:ps.length=32*n):twoP F z (twoP F z ps n) n=ps:=by
 conv=>lhs;rw [twoP]
 rw [glueF_ext _ (fun k=>fstB ps k++sndB ps k) n fun k hk=>by rw [fsF,fir_back F z ps n k hk hl,sec_back F z ps n k hk hl]]
 exact glue_all ps n hl
theorem sumX_back:sumG (xF F (twoP F z ps n)) n=sumG (yF F z (oneP F ps n)) n:=sumG_ext _ _ n fun k hk=>by rw [twoP,x_back F z _ k n hk]
theorem sumY_back:sumG (yF F z (oneP F (twoP F z ps n) n)) n=sumG (xF F ps) n:=sumG_ext _ _ n fun k hk=>y_back F z ps n k hk
end
end
structure CoreT where
 ps:List Byte
 u:List Byte
 v:List Byte
 x:List Byte
 y:List Byte
structure CoreT.Ok (c:CoreT) (n:Nat):Prop where
 ps:c.ps.length=32*n
 u:c.u.length≤16
 v:c.v.length≤15
 uv:c.u.length<16→c.v=[]
 x:c.x.length=16
 y:c.y.length=16
section
variable (F:Int→Int→List Byte→List Byte) (h:List Byte) (a b:Int) (n:Nat) (c:CoreT)
def sT:List Byte:=bothL (bothL (bothL c.x h) (bothL (sumG (xF F c.ps) n) (tailL F c.u c.v))) (F 0 a c.y)
def tT:List Byte:=bothL c.y (F (-1) a (sT F h a n c))
def zT:List Byte:=bothL (sT F h a n c) (tT F h a n c)
def uT:List Byte:=xorL c.u (F (-1) 4 (zT F h a n c))
def vT:List Byte:=xorL c.v (F (-1) 5 (zT F h a n c))
def qT:List Byte:=bothL (sumG (yF F (zT F h a n c) (oneP F c.ps n)) n) (tailL F (uT F h a n c) (vT F h a n c))
def yT:List Byte:=bothL (sT F h a n c) (F (-1) b (tT F h a n c))
def xT:List Byte:=bothL (bothL (bothL (tT F h a n c) h) (qT F h a n c)) (F 0 b (yT F h a b n c))
def coreT:CoreT:=⟨twoP F (zT F h a n c) c.ps n,uT F h a n c,vT F h a n c,xT F h a b n c,yT F h a b n c⟩
end
theorem xorq(a b:Byte):a^^^(a^^^b)=b:=by rw [←BitVec.xor_assoc,BitVec.xor_self,BitVec.zero_xor]
theorem six_back(t h q e:List Byte)(ht:t.length=16):bothL (bothL (bothL (bothL (bothL (bothL t h) q) e) h) q) e=t:=nth_ext (by rw [bothL_length,ht]) fun i hi=>by
 rw [bothL_length]at hi
 simp only [bothL_nth _ _ _ hi]
 have lc:∀a b c:Byte,a^^^(b^^^c)=b^^^(a^^^c):=fun a b c=>by rw [←BitVec.xor_assoc,BitVec.xor_comm a b,BitVec.xor_assoc]
 generalize nth t i=T
 generalize nth h i=H
 generalize nth q i=Q
 generalize nth e i=E
 rw [BitVec.xor_assoc,BitVec.xor_assoc,BitVec.xor_assoc,BitVec.xor_assoc,BitVec.xor_assoc,lc E H,lc Q H,xorq,lc E Q,xorq,BitVec.xor_self,BitVec.xor_zero]
section
variable (F:Int→Int→List Byte→List Byte) (hF:∀j m x,(F j m x).length=16) (h:List Byte) (a b:Int) (n:Nat) (c:CoreT)
theorem sT_length:(sT F h a n c).length=16:=bothL_length _ _
theorem tT_length:(tT F h a n c).length=16:=bothL_length _ _
include hF in
theorem uT_length(ok:c.Ok n):(uT F h a n c).length=c.u.length:=by rw [uT,xorL_length,hF];have:=ok.u;omega
include hF in
theorem vT_length(ok:c.Ok n):(vT F h a n c).length=c.v.length:=by rw [vT,xorL_length,hF];have:=ok.v;omega
include hF in
theorem coreT_ok(ok:c.Ok n):(coreT F h a b n c).Ok n where
 ps:=twoP_length F _ _ n
 u:=by show(uT F h a n c).length≤16;rw [uT_length F hF h a n c ok];exact ok.u
 v:=by show(vT F h a n c).length≤15;rw [vT_length F hF h a n c ok];exact ok.v
 uv:=fun hh=>by
   have h1:(uT F h a n c).length<16:=hh
   rw [uT_length F hF h a n c ok]at h1
   show vT F h a n c=[]
   exact List.length_eq_zero_iff.1 (by rw [vT_length F hF h a n c ok,ok.uv h1];rfl)
 x:=bothL_length _ _
 y:=bothL_length _ _
theorem sT_back:sT F h b n (coreT F h a b n c)=tT F h a n c:=by
 have e:bothL (sumG (xF F (coreT F h a b n c).ps) n) (tailL F (coreT F h a b n c).u (coreT F h a b n c).v)=qT F h a n c:=by
   show bothL (sumG (xF F (twoP F (zT F h a n c) c.ps n)) n) (tailL F (uT F h a n c) (vT F h a n c))=_
   rw [sumX_back];rfl
 rw [sT,e]
 show bothL (bothL (bothL (xT F h a b n c) h) (qT F h a n c)) (F 0 b (yT F h a b n c))=_
 rw [xT]
 exact six_back _ h _ _ (tT_length F h a n c)
theorem tT_back:tT F h b n (coreT F h a b n c)=sT F h a n c:=by
 rw [tT,sT_back]
 show bothL (yT F h a b n c) _=_
 rw [yT,both_back _ _ (sT_length F h a n c)]
theorem zT_back:zT F h b n (coreT F h a b n c)=zT F h a n c:=by rw [zT,sT_back,tT_back,both_comm];rfl
include hF in
theorem coreT_back(ok:c.Ok n):coreT F h b a n (coreT F h a b n c)=c:=by
 have hz:=zT_back F h a b n c
 have hu:uT F h b n (coreT F h a b n c)=c.u:=by
   rw [uT,hz]
   exact xor_twice c.u _ (by rw [hF];exact ok.u)
 have hv:vT F h b n (coreT F h a b n c)=c.v:=by
   rw [vT,hz]
   exact xor_twice c.v _ (by rw [hF];have:=ok.v;omega)
 have hy:yT F h b a n (coreT F h a b n c)=c.y:=by
   rw [yT,sT_back,tT_back,tT,both_back _ _ ok.y]
 have hq:qT F h b n (coreT F h a b n c)=bothL (sumG (xF F c.ps) n) (tailL F c.u c.v):=by
   rw [qT,hz,hu,hv]
   show bothL (sumG (yF F (zT F h a n c) (oneP F (twoP F (zT F h a n c) c.ps n) n)) n) _=_
   rw [sumY_back]
 have hx:xT F h b a n (coreT F h a b n c)=c.x:=by
   rw [xT,tT_back,hq,hy,sT]
   exact six_back _ h _ _ ok.x
 have hp:twoP F (zT F h b n (coreT F h a b n c)) (coreT F h a b n c).ps n=c.ps:=by
   rw [hz]
   exact twoP_back F _ c.ps n ok.ps
 rw [coreT,hp,hu,hv,hx,hy]
end
def joinT(c:CoreT):List Byte:=c.ps++(c.u++(c.v++(c.x++c.y)))
def restM(m:List Byte):List Byte:=(m.drop (32*((m.length-32)/32))).take (m.length-32-32*((m.length-32)/32))
def splitT(m:List Byte):CoreT:=⟨m.take (32*((m.length-32)/32)),(restM m).take 16,(restM m).drop 16,(m.drop (m.length-32)).take 16,m.drop (m.length-16)⟩
theorem restM_length(m:List Byte):(restM m).length=m.length-32-32*((m.length-32)/32):=by rw [restM,List.length_take,List.length_drop];omega
theorem splitT_ok(m:List Byte)(h:32≤m.length):(splitT m).Ok ((m.length-32)/32):=by
 have hr:=restM_length m
 constructor
 · show(m.take _).length=_;rw [List.length_take];omega
 · show((restM m).take 16).length≤16;rw [List.length_take];omega
 · show((restM m).drop 16).length≤15;rw [List.length_drop];omega
 · intro h1
   have h2:((restM m).take 16).length<16:=h1
   rw [List.length_take]at h2
   exact List.drop_eq_nil_of_le (by omega)
 · show((m.drop _).take 16).length=16;rw [List.length_take,List.length_drop];omega
 · show(m.drop _).length=16;rw [List.length_drop];omega
theorem join_split(m:List Byte)(h:32≤m.length):joinT (splitT m)=m:=by
 show m.take _++((restM m).take 16++((restM m).drop 16++((m.drop (m.length-32)).take 16++m.drop (m.length-16))))=m
 have e1:(m.drop (m.length-32)).take 16++m.drop (m.length-16)=m.drop (m.length-32):=by
   rw [show m.length-16=m.length-32+16 by omega,←List.drop_drop,List.take_append_drop]
 have e2:restM m++m.drop (m.length-32)=m.drop (32*((m.length-32)/32)):=by
   rw [restM]
   conv=>rhs;rw [←List.take_append_drop (m.length-32-32*((m.length-32)/32)) (m.drop (32*((m.length-32)/32)))]
   rw [List.drop_drop]
   congr 2
   omega
 rw [e1,←List.append_assoc ((restM m).take 16),List.take_append_drop,e2,List.take_append_drop]
theorem join_length(c:CoreT)(n:Nat)(ok:c.Ok n):(joinT c).length=32*n+(c.u.length+c.v.length)+32:=by
 simp only [joinT,List.length_append,ok.ps,ok.x,ok.y];omega
theorem joinT_n(c:CoreT)(n:Nat)(ok:c.Ok n):((joinT c).length-32)/32=n:=by
 rw [join_length c n ok]
 have:=ok.u;have:=ok.v
 omega
theorem dropA(a b:List Byte)(n:Nat)(h:a.length=n):(a++b).drop n=b:=by
 subst h;exact List.drop_left
theorem takeA(a b:List Byte)(n:Nat)(h:a.length=n):(a++b).take n=a:=by
 subst h;exact List.take_left
theorem split_join(c:CoreT)(n:Nat)(ok:c.Ok n):splitT (joinT c)=c:=by
 have hl:=join_length c n ok
 have hn:=joinT_n c n ok
 have hr:restM (joinT c)=c.u++c.v:=by
   rw [restM,hn,hl]
   rw [show joinT c=c.ps++(c.u++(c.v++(c.x++c.y)))from rfl,dropA _ _ _ ok.ps,←List.append_assoc]
   exact takeA _ _ _ (by rw [List.length_append];omega)
 have e1:(restM (joinT c)).take 16=c.u:=by
   rw [hr]
   by_cases h:c.u.length<16
   · rw [ok.uv h,List.append_nil,List.take_of_length_le (by omega)]
   · exact takeA _ _ _ (by have:=ok.u;omega)
 have e2:(restM (joinT c)).drop 16=c.v:=by
   rw [hr]
   by_cases h:c.u.length<16
   · rw [ok.uv h,List.append_nil,List.drop_eq_nil_of_le (by omega)]
   · exact dropA _ _ _ (by have:=ok.u;omega)
 have e3:(joinT c).take (32*(((joinT c).length-32)/32))=c.ps:=by rw [hn];exact takeA _ _ _ ok.ps
 have g:joinT c=((c.ps++(c.u++c.v))++c.x)++c.y:=by simp [joinT]
 have e4:((joinT c).drop ((joinT c).length-32)).take 16=c.x:=by
   rw [hl,g,List.append_assoc _ c.x c.y,dropA _ _ _ (by simp only [List.length_append,ok.ps];omega),takeA _ _ _ ok.x]
 have e5:(joinT c).drop ((joinT c).length-16)=c.y:=by
   rw [hl,g,dropA _ _ _ (by simp only [List.length_append,ok.ps,ok.x];omega)]
 rw [splitT,e1,e2,e3,e4,e5]
def coreL(F:Int→Int→List Byte→List Byte)(h:List Byte)(a b:Int)(m:List Byte):List Byte:=joinT (coreT F h a b ((m.length-32)/32) (splitT m))
section
variable (F:Int→Int→List Byte→List Byte) (hF:∀j m x,(F j m x).length=16) (h:List Byte) (a b:Int)
include hF in
theorem coreL_length(m:List Byte)(hm:32≤m.length):(coreL F h a b m).length=m.length:=by
 have ok:=splitT_ok m hm
 have o2:=coreT_ok F hF h a b _ _ ok
 have h1:=join_length _ _ o2
 have h2:=join_length _ _ ok
 rw [join_split m hm]at h2
 rw [coreL,h1]
 show 32*_+((uT F h a _ (splitT m)).length+(vT F h a _ (splitT m)).length)+32=_
 rw [uT_length F hF h a _ _ ok,vT_length F hF h a _ _ ok,←h2]
include hF in
theorem coreL_back(m:List Byte)(hm:32≤m.length):coreL F h b a (coreL F h a b m)=m:=by
 have ok:=splitT_ok m hm
 have o2:=coreT_ok F hF h a b _ _ ok
 have hl:=coreL_length F hF h a b m hm
 conv=>lhs;rw [coreL]
 rw [hl]
 conv=>lhs;rw [coreL,split_join _ _ o2,coreT_back F hF h a b _ _ ok]
 exact join_split m hm
end
def nibL(b:List Byte)(k:Nat):Byte:=(nth b (k/2)>>>(4*(1-k%2)))&&&15#8
def halvesL(b:List Byte)(s n:Nat):List Byte:=tab n fun i=>nibL b (s+i)
def joinN(hs:List Byte):List Byte:=tab ((hs.length+1)/2) fun q=>((nth hs (2*q)&&&15#8)<<<4)|||(nth hs (2*q+1)&&&15#8)
theorem halvesL_length(b:List Byte)(s n:Nat):(halvesL b s n).length=n:=tab_length
theorem joinN_length(hs:List Byte):(joinN hs).length=(hs.length+1)/2:=tab_length
theorem lo_nib:∀x:Byte,∃i:Fin 16,x&&&15#8=BitVec.ofNat 8 i.val:=by decide+kernel
theorem nib_hi(x y:Byte):((((x&&&15#8)<<<4)|||(y&&&15#8))>>>4)&&&15#8=x&&&15#8:=by
 have key:∀i j:Fin 16,(((BitVec.ofNat 8 i.val<<<4)|||BitVec.ofNat 8 j.val)>>>4)&&&15#8=BitVec.ofNat 8 i.val:=by decide+kernel
 obtain⟨i,hi⟩:=lo_nib x
 obtain⟨j,hj⟩:=lo_nib y
 rw [hi,hj];exact key i j
theorem nib_lo(x y:Byte):(((x&&&15#8)<<<4)|||(y&&&15#8))&&&15#8=y&&&15#8:=by
 have key:∀i j:Fin 16,((BitVec.ofNat 8 i.val<<<4)|||BitVec.ofNat 8 j.val)&&&15#8=BitVec.ofNat 8 j.val:=by decide+kernel
 obtain⟨i,hi⟩:=lo_nib x
 obtain⟨j,hj⟩:=lo_nib y
 rw [hi,hj];exact key i j
theorem hi_bit:∀y:Byte,y&&&128#8=0#8∨y&&&128#8=128#8:=by decide+kernel
theorem nib_byte:∀x:Byte,((((x>>>4)&&&15#8)&&&15#8)<<<4)|||((x&&&15#8)&&&15#8)=x:=by decide+kernel
theorem nib_two:∀x:Byte,(x&&&15#8)&&&15#8=x&&&15#8:=by decide+kernel
theorem nib_join(hs:List Byte)(i:Nat)(hi:i<hs.length):nibL (joinN hs) i=nth hs i&&&15#8:=by
 rw [nibL,joinN,nth_tab (by omega)]
 by_cases e:i%2=0
 · rw [e,show 2*(i/2)=i by omega]
   exact nib_hi _ _
 · have e1:i%2=1:=by omega
   have e2:2*(i/2)+1=i:=by omega
   rw [e1,e2,show 4*(1-1)=0 from rfl,BitVec.ushiftRight_zero]
   exact nib_lo _ _
theorem join_halves(m:List Byte):joinN (halvesL m 0 (2*m.length))=m:=nth_ext (by rw [joinN_length,halvesL_length];omega) fun i hi=>by
 rw [joinN_length,halvesL_length]at hi
 rw [joinN,halvesL_length,nth_tab hi,halvesL,nth_tab (by omega),nth_tab (by omega),nibL,nibL]
 rw [show(0+2*i)/2=i by omega,show(0+(2*i+1))/2=i by omega,show(0+2*i)%2=0 by omega,show(0+(2*i+1))%2=1 by omega]
 show(((nth m i>>>4)&&&15#8&&&15#8)<<<4)|||(((nth m i>>>0)&&&15#8)&&&15#8)=_
 rw [BitVec.ushiftRight_zero]
 exact nib_byte _
def NibOk(l:List Byte):Prop:=∀i,nth l i&&&15#8=nth l i
theorem halvesL_ok(b:List Byte)(s n:Nat):NibOk (halvesL b s n):=fun i=>by
 by_cases h:i<n
 · rw [halvesL,nth_tab h,nibL,nib_two]
 · rw [nth_ge (by rw [halvesL_length];omega)];decide
theorem xorL_nth(a b:List Byte)(i:Nat)(h:i<(xorL a b).length):nth (xorL a b) i=nth a i^^^nth b i:=xorL_getD a b i h
theorem and_xor15(a b:Byte):(a^^^b)&&&15#8=(a&&&15#8)^^^(b&&&15#8):=by
 apply BitVec.eq_of_getLsbD_eq
 intro i _
 simp only [BitVec.getLsbD_and,BitVec.getLsbD_xor,Bool.and_xor_distrib_right]
theorem xorL_ok {a b:List Byte}(ha:NibOk a)(hb:NibOk b):NibOk (xorL a b):=fun i=>by
 by_cases h:i<(xorL a b).length
 · rw [xorL_nth a b i h,and_xor15,ha,hb]
 · rw [nth_ge (by omega)];decide
theorem halves_add(m:List Byte)(n:Nat):halvesL m 0 n++halvesL m n n=halvesL m 0 (2*n):=nth_ext (by simp only [List.length_append,halvesL_length];omega) fun i hi=>by
 simp only [List.length_append,halvesL_length]at hi
 by_cases h:i<n
 · have e:nth (halvesL m 0 n++halvesL m n n) i=nth (halvesL m 0 n) i:=by
     simp only [nth,List.getD_eq_getElem?_getD]
     rw [List.getElem?_append_left (by rw [halvesL_length];exact h)]
   rw [e,halvesL,halvesL,nth_tab h,nth_tab (by omega)]
 · have e:nth (halvesL m 0 n++halvesL m n n) i=nth (halvesL m n n) (i-n):=by
     simp only [nth,List.getD_eq_getElem?_getD]
     rw [List.getElem?_append_right (by rw [halvesL_length];omega),halvesL_length]
   rw [e,halvesL,halvesL,nth_tab (by omega),nth_tab (by omega)]
   congr 1;omega
theorem halves_all(m:List Byte):joinN (halvesL m 0 m.length++halvesL m m.length m.length)=m:=by rw [halves_add,join_halves]
theorem halves_left(l r:List Byte)(hl:NibOk l)(n:Nat)(ll:l.length=n):halvesL (joinN (l++r)) 0 n=l:=nth_ext (by rw [halvesL_length,ll]) fun i hi=>by
 rw [halvesL_length]at hi
 rw [halvesL,nth_tab hi,Nat.zero_add,nib_join _ _ (by rw [List.length_append];omega)]
 have e:nth (l++r) i=nth l i:=by
   simp only [nth,List.getD_eq_getElem?_getD]
   rw [List.getElem?_append_left (by omega)]
 rw [e,hl]
theorem halves_right(l r:List Byte)(hr:NibOk r)(n:Nat)(ll:l.length=n)(lr:r.length=n):halvesL (joinN (l++r)) n n=r:=nth_ext (by rw [halvesL_length,lr]) fun i hi=>by
 rw [halvesL_length]at hi
 rw [halvesL,nth_tab hi,nib_join _ _ (by rw [List.length_append];omega)]
 have e:nth (l++r) (n+i)=nth r i:=by
   simp only [nth,List.getD_eq_getElem?_getD]
   rw [List.getElem?_append_right (by omega),ll,Nat.add_sub_cancel_left]
 rw [e,hr]
def roundsN(n:Nat):Nat:=if n<1∨31<n then 0 else if n=1 then 24 else if n=2 then 16 else if n<16 then 10 else 8
def cntB(n:Nat):List Byte:=tab 16 fun q=>if 8≤q then nth (putL (BitVec.ofNat 64 n) 8) (15-q)else 0#8
theorem cntB_length(n:Nat):(cntB n).length=16:=tab_length
section
variable (F:Int→Int→List Byte→List Byte) (h:List Byte)
def stepB(j:Nat)(half:List Byte):List Byte:=bothL (bothL (blk (joinN (half++[8#8]))) h) (cntB j)
def stepL(i:Int)(j:Nat)(half:List Byte):List Byte:=halvesL (F 0 i (stepB h j half)) 0 half.length
theorem stepL_length(i:Int)(j:Nat)(half:List Byte):(stepL F h i j half).length=half.length:=halvesL_length _ _ _
theorem stepL_ok(i:Int)(j:Nat)(half:List Byte):NibOk (stepL F h i j half):=halvesL_ok _ _ _
def topB(m:List Byte):List Byte:=bothL (setN (blk m) 0 (nth (blk m) 0|||128#8)) h
def flipL(m:List Byte):List Byte:=if m.length=0∨16≤m.length then m else setN m 0 (nth m 0^^^(nth (F 0 3 (topB h m)) 0&&&128#8))
theorem flipL_length(m:List Byte):(flipL F h m).length=m.length:=by
 unfold flipL;split
 · rfl
 · exact List.length_set
theorem top_or:∀x y:Byte,(x^^^(y&&&128#8))|||128#8=x|||128#8:=by
 have key:∀x:Byte,(x^^^0#8)|||128#8=x|||128#8∧(x^^^128#8)|||128#8=x|||128#8:=by decide+kernel
 intro x y
 rcases hi_bit y with h|h
 · rw [h];exact(key x).1
 · rw [h];exact(key x).2
theorem flip_top(m:List Byte)(x:Byte)(h0:m.length≠0):topB h (setN m 0 (nth m 0^^^(x&&&128#8)))=topB h m:=by
 have e:setN (blk (setN m 0 (nth m 0^^^(x&&&128#8)))) 0 (nth (blk (setN m 0 (nth m 0^^^(x&&&128#8)))) 0|||128#8)=setN (blk m) 0 (nth (blk m) 0|||128#8):=nth_ext (by rw [setN_length,setN_length,blk_length,blk_length]) fun i hi=>by
   rw [setN_length,blk_length]at hi
   rw [nth_set (by rw [blk_length];exact hi),nth_set (by rw [blk_length];exact hi)]
   by_cases e:0=i
   · rw [if_pos e,if_pos e,blk_nth _ _ (by omega),blk_nth _ _ (by omega),nth_set (by omega),if_pos rfl]
     exact top_or _ _
   · rw [if_neg e,if_neg e,blk_nth _ _ hi,blk_nth _ _ hi]
     by_cases hl:i<m.length
     · rw [nth_set hl,if_neg e]
     · rw [nth_ge (by rw [setN_length];omega),nth_ge (by omega)]
 rw [topB,e];rfl
theorem flipL_twice(m:List Byte):flipL F h (flipL F h m)=m:=by
 by_cases c:m.length=0∨16≤m.length
 · have e:flipL F h m=m:=if_pos c
   rw [e,e]
 · have hl:=flipL_length F h m
   have e:flipL F h m=setN m 0 (nth m 0^^^(nth (F 0 3 (topB h m)) 0&&&128#8)):=if_neg c
   conv=>lhs;rw [flipL]
   rw [hl,if_neg c,e,flip_top h m _ (by omega)]
   generalize nth (F 0 3 (topB h m)) 0&&&128#8=x
   refine nth_ext (by rw [setN_length,setN_length]) fun i hi=> ?_
   rw [setN_length,setN_length]at hi
   rw [nth_set (by rw [setN_length];exact hi),nth_set (by omega),if_pos rfl]
   by_cases e:0=i
   · subst e;rw [if_pos rfl,BitVec.xor_assoc,BitVec.xor_self,BitVec.xor_zero]
   · rw [if_neg e,nth_set (by omega),if_neg e]
end
def rndT(S:Nat→List Byte→List Byte)(j:Nat)(p:List Byte×List Byte):List Byte×List Byte:=(p.2,xorL p.1 (S j p.2))
def rndsT(S:Nat→List Byte→List Byte)(J:Nat→Nat)(p:List Byte×List Byte):Nat→List Byte×List Byte
 |0=>p
 |k+1=>rndT S (J k) (rndsT S J p k)
structure TwoN (n:Nat) (p:List Byte×List Byte):Prop where
 l:p.1.length=n
 r:p.2.length=n
 lo:NibOk p.1
 ro:NibOk p.2
section
variable (S:Nat→List Byte→List Byte) (hS:∀j x,(S j x).length=x.length) (hO:∀j x,NibOk (S j x)) (J:Nat→Nat) (n:Nat) (p:List Byte×List Byte)
include hS hO in
theorem rndsT_two(hp:TwoN n p):∀k,TwoN n (rndsT S J p k)
 |0=>hp
 | k+1=>by
   have h:=rndsT_two hp k
   exact⟨h.r,by show(xorL _ _).length=n;rw [xorL_length,hS,h.l,h.r,Nat.min_self],h.ro,xorL_ok h.lo (hO _ _)⟩
theorem rndsT_ext(I:Nat→Nat):∀k,(∀i,i<k→I i=J i)→rndsT S I p k=rndsT S J p k
 |0,_=>rfl
 |k+1,h=>by rw [rndsT,rndsT,rndsT_ext I k fun i hi=>h i (by omega),h k (by omega)]
def swapT(p:List Byte×List Byte):List Byte×List Byte:=(p.2,p.1)
include hS hO in
theorem rndsT_back(R:Nat)(hp:TwoN n p):∀k,k≤R→rndsT S (fun i=>J (R-1-i)) (swapT (rndsT S J p R)) k=swapT (rndsT S J p (R-k))
 |0,_=>rfl
 | k+1,h=>by
   have hq:=rndsT_two S hS hO J n p hp (R-(k+1))
   rw [rndsT,rndsT_back R hp k (by omega),show R-k=(R-(k+1))+1 by omega,rndsT,show R-1-k=R-(k+1)by omega]
   generalize rndsT S J p (R-(k+1))=q at*
   show(q.2,xorL (xorL q.1 (S _ q.2)) (S _ q.2))=(q.2,q.1)
   rw [xor_twice _ _ (by rw [hS,hq.l,hq.r];exact Nat.le_refl _)]
include hS hO in
theorem rndsT_all(R:Nat)(hp:TwoN n p):rndsT S (fun i=>J (R-1-i)) (swapT (rndsT S J p R)) R=swapT p:=by
 rw [rndsT_back S hS hO J n p R hp R (Nat.le_refl _),Nat.sub_self];rfl
end
def numN(n:Nat):Int:=if n<16 then 7 else 6
def ordN(back:Bool)(R k:Nat):Nat:=if back=true then R-1-k else k
section
variable (F:Int→Int→List Byte→List Byte) (h:List Byte)
def pairT(m:List Byte):List Byte×List Byte:=(halvesL m 0 m.length,halvesL m m.length m.length)
def midT(back:Bool)(m:List Byte):List Byte×List Byte:=rndsT (stepL F h (numN m.length)) (ordN back (roundsN m.length)) (pairT m) (roundsN m.length)
def tinyL(back:Bool)(m:List Byte):List Byte:=
 if back=true then joinN ((midT F h true (flipL F h m)).2++(midT F h true (flipL F h m)).1)
 else flipL F h (joinN ((midT F h false m).2++(midT F h false m).1))
theorem pairT_two(m:List Byte):TwoN m.length (pairT m):=⟨halvesL_length _ _ _,halvesL_length _ _ _,halvesL_ok _ _ _,halvesL_ok _ _ _⟩
theorem midT_two(back:Bool)(m:List Byte):TwoN m.length (midT F h back m):=rndsT_two _ (stepL_length F h _) (stepL_ok F h _) _ _ _ (pairT_two m) _
theorem join_two(p:List Byte×List Byte)(n:Nat)(hp:TwoN n p):(joinN (p.2++p.1)).length=n:=by
 rw [joinN_length,List.length_append,hp.l,hp.r];omega
theorem pair_join(p:List Byte×List Byte)(n:Nat)(hp:TwoN n p):pairT (joinN (p.2++p.1))=swapT p:=by
 rw [pairT,join_two p n hp,halves_left _ _ hp.ro n hp.r,halves_right _ _ hp.lo n hp.r hp.l];rfl
theorem tinyL_length(back:Bool)(m:List Byte):(tinyL F h back m).length=m.length:=by
 unfold tinyL
 split
 · rw [join_two _ _ (midT_two F h true _),flipL_length]
 · rw [flipL_length,join_two _ _ (midT_two F h false _)]
theorem midT_back(back:Bool)(m:List Byte):midT F h (!back) (joinN ((midT F h back m).2++(midT F h back m).1))=swapT (pairT m):=by
 have h2:=midT_two F h back m
 have hl:=join_two _ _ h2
 rw [midT,pair_join _ _ h2,hl,midT]
 rw [←rndsT_all (stepL F h (numN m.length)) (stepL_length F h _) (stepL_ok F h _) (ordN back (roundsN m.length)) m.length (pairT m) (roundsN m.length) (pairT_two m)]
 refine rndsT_ext _ _ _ _ _ fun i hi=> ?_
 cases back
 · show roundsN m.length-1-i=roundsN m.length-1-i;rfl
 · show i=roundsN m.length-1-(roundsN m.length-1-i);omega
theorem tinyL_back(back:Bool)(m:List Byte):tinyL F h (!back) (tinyL F h back m)=m:=by
 cases back with
 | false=>
   show joinN ((midT F h true (flipL F h (flipL F h (joinN ((midT F h false m).2++(midT F h false m).1))))).2++(midT F h true (flipL F h (flipL F h (joinN ((midT F h false m).2++(midT F h false m).1))))).1)=m
   rw [flipL_twice,show true= !false from rfl,midT_back]
   exact halves_all m
 | true=>
   show flipL F h (joinN ((midT F h false (joinN ((midT F h true (flipL F h m)).2++(midT F h true (flipL F h m)).1))).2++(midT F h false (joinN ((midT F h true (flipL F h m)).2++(midT F h true (flipL F h m)).1))).1))=m
   rw [show false= !true from rfl,midT_back]
   show flipL F h (joinN (halvesL _ 0 _++halvesL _ _ _))=m
   rw [halves_all,flipL_twice]
end
def cntG(P:List Byte)(j:Nat):List Byte:=tab 16 fun q=>if 16-j≤q then nth P (15-q)else 0#8
theorem cntG_length(P:List Byte)(j:Nat):(cntG P j).length=16:=tab_length
theorem cntG_zero(P:List Byte):cntG P 0=zer 16:=nth_ext (by rw [cntG_length,zer_length]) fun i hi=>by
 rw [cntG_length]at hi
 rw [cntG,nth_tab hi,if_neg (by omega),zer,nth_tab hi];rfl
theorem cntG_step(P:List Byte)(j:Nat)(hj:j<8):setN (cntG P j) (15-j) (nth P j)=cntG P (j+1):=nth_ext (by rw [setN_length,cntG_length,cntG_length]) fun i hi=>by
 rw [setN_length,cntG_length]at hi
 rw [nth_set (by rw [cntG_length];exact hi),cntG,cntG,nth_tab hi,nth_tab hi]
 by_cases e:15-j=i
 · rw [if_pos e,if_pos (by omega),show 15-i=j by omega]
 · rw [if_neg e]
   by_cases e2:16-j≤i
   · rw [if_pos e2,if_pos (by omega)]
   · rw [if_neg e2,if_neg (by omega)]
theorem cntG_all(n:Nat):cntG (putL (BitVec.ofNat 64 n) 8) 8=cntB n:=rfl
theorem tcounted_any(n:Nat)(hn:n≤9223372036854775807)(w0:World):Gives Tryz.prog 136 #[.int .i64 n] w0 (A8 (cntB n)):=by
 unfold Gives
 have hm:=Own.start w0
 have cp:=fun w=>putlong_any' (BitVec.ofNat 64 n) w
 rw [←natv64 (show n<18446744073709551616 by omega)]at cp
 have CP:=hid cp
 have lP:(putL (BitVec.ofNat 64 n) 8).length=8:=putL_length _ _
 have E0:=hid (cntG_zero (putL (BitVec.ofNat 64 n) 8))
 have ES:=hid (cntG_step (putL (BitVec.ofNat 64 n) 8))
 have EA:=hid (cntG_all n)
 have lC:=hid (cntG_length (putL (BitVec.ofNat 64 n) 8))
 have lR:=cntB_length n
 clear cp
 generalize putL (BitVec.ofNat 64 n) 8=P at*
 generalize cntB n=D at*
 go_enter Tryz.func136,Tryz.ntmps136
 go_wp2_with (first|(go_at_call 11;(with_reducible refine(CP.out _).mono ?_);rintro e_ w ⟨rfl,hx_⟩;replace hm:=hm.ext hx_;clear hx_)|((first|((with_reducible show qAl);first|(refine zG hm ?_)));clear hm;(first|(have hx_:=g1;clear hx_;(first|(have hx_:=g2;clear hx_;intro gx_)|intro g2))|intro g1);intro w hm))
 rw [←E0.out]at hm
 go_loopw [9] (fun i wr=>∃j:Nat,j≤8∧i= .int .i64 j∧Own w0 wr [⟨g2,132,(cntG P j).map v8⟩,⟨g1,132,(cntG P 0).map v8⟩]) (fun i _=>8-(intOf i).toNat)
 case atStart=>exact⟨0,by omega,rfl,by rw [E0.out]at hm⊢;exact hm⟩
 case round=>
   obtain⟨j,hj,rfl,hm⟩:=hrel
   have lj:=lC.out j
   have l0:=lC.out 0
   by_cases hjl:j<8
   · have hj1:decide ((j:Int)<8)=true:=decide_eq_true (by omega)
     have hj2:(j:Int)<8:=by omega
     obtain⟨k,hk⟩:∃k:Nat,k=15-j:=⟨_,rfl⟩
     have hk1:(15:Int)-(j:Int)=(k:Int):=by omega
     have hk2:k<16:=by omega
     have es:=ES.out j hjl
     rw [←hk]at es
     have HES:=hid es
     clear es hk
     generalize hC2:cntG P (j+1)=C2 at*
     generalize cntG P 0=C0 at*
     generalize cntG P j=C at*
     have HC2:=hid hC2
     clear hC2
     go_wp2_with (first|((with_reducible apply wq_idx (l:=P) (k:=j) Tryz.underlying40);infer_instance;exact rfl;exact rfl;exact rfl;exact lP;exact hjl)|((((with_reducible show qSt);first|(refine zD hm ?_)));clear hm;intro w hm))
     go_roundw
     case rel=>
       rw [HES.out]at hm
       exact⟨j+1,by omega,by go_num,by rw [HC2.out];exact hm⟩
     case measure=>simp [intOf]<;>omega
   · obtain rfl:j=8:=by omega
     have hj1:decide (((8:Nat):Int)<8)=false:=decide_eq_false (by omega)
     rw [EA.out]at hm lj
     generalize cntG P 0=C0 at*
     go_wp2_with (first|((with_reducible show qLd);first|(refine zB hm ?_))|((((with_reducible show qSt);first|(refine zE hm ?_)));clear hm;intro w hm))
     refine rtO hm rfl rfl ⟨rfl,hm.x⟩
def roundsI(n:Int):Int:=if n<1∨31<n then 0 else if n=1 then 24 else if n=2 then 16 else if n<16 then 10 else 8
theorem rounds_any(n:Int)(w0:World):Calls Tryz.prog 111 #[.int .i64 n] w0 fun e w'=>e= .returned (.int .i64 (roundsI n))∧w'=w0:=by
 by_cases h1:n<1
 · have a1:decide (n<1)=true:=decide_eq_true h1
   have e:roundsI n=0:=if_pos (.inl h1)
   rw [e]
   go_enter Tryz.func111,Tryz.ntmps111
   go_wp2
   go_ret
   exact⟨rfl,rfl⟩
 have a1:decide (n<1)=false:=decide_eq_false h1
 by_cases h2:31<n
 · have a2:decide (31<n)=true:=decide_eq_true h2
   have e:roundsI n=0:=if_pos (.inr h2)
   rw [e]
   go_enter Tryz.func111,Tryz.ntmps111
   go_wp2
   go_ret
   exact⟨rfl,rfl⟩
 have a2:decide (31<n)=false:=decide_eq_false h2
 have e0:roundsI n=if n=1 then 24 else if n=2 then 16 else if n<16 then 10 else 8:=if_neg (by omega)
 by_cases h3:n=1
 · subst h3
   have e:roundsI 1=24:=by decide
   rw [e]
   clear h1 h2 a1 a2 e0
   go_enter Tryz.func111,Tryz.ntmps111
   go_wp2
   go_ret
   exact⟨rfl,rfl⟩
 by_cases h4:n=2
 · subst h4
   have e:roundsI 2=16:=by decide
   rw [e]
   clear h1 h2 h3 a1 a2 e0
   go_enter Tryz.func111,Tryz.ntmps111
   go_wp2
   go_ret
   exact⟨rfl,rfl⟩
 rw [if_neg h3,if_neg h4]at e0
 have a3:(n==1)=false:=by rw [beq_eq_false_iff_ne];exact h3
 have a4:(n==2)=false:=by rw [beq_eq_false_iff_ne];exact h4
 by_cases h5:n<16
 · have a5:decide (n<16)=true:=decide_eq_true h5
   rw [if_pos h5]at e0
   rw [e0]
   go_enter Tryz.func111,Tryz.ntmps111
   go_wp2
   go_ret
   exact⟨rfl,rfl⟩
 · have a5:decide (n<16)=false:=decide_eq_false h5
   rw [if_neg h5]at e0
   rw [e0]
   go_enter Tryz.func111,Tryz.ntmps111
   go_wp2
   go_ret
   exact⟨rfl,rfl⟩
theorem clone_sl(l:List Byte)(p:Option Addr)(c:Nat)(w0:World)(hl:RdB w0 p l)(hb:l.length≤70368744177000):Calls Tryz.prog 74 #[.slice p l.length c] w0 fun e w'=>∃v M,e= .returned v∧SlO M 5 1 v l.length (l.map v8)∧Own w0 w' M:=by
 have hm:=Own.start w0
 cases p with
 | none=>
   have e1:=fun c w=>eq_nil8 none 0 c w
   obtain rfl:l=[]:=by
     rcases Nat.eq_zero_or_pos l.length with h|h
     · exact List.length_eq_zero_iff.1 h
     · have:=hl.1 h;simp at this
   clear hl
   simp only [List.length_nil]
   go_enter Tryz.func74,Tryz.ntmps74
   go_wp2
   go_ret
   exact⟨_,[],rfl,SlO.nil _ _,hm⟩
 | some a=>
   have HL:=hid hl
   have FIT:=hid (show(0+l.length)*(1+1)≤140737488355328 by omega)
   have LY:=hid (show(l.map v8).length=l.length*1 by simp)
   clear hl
   have e1:=fun n c w=>eq_nil8 (some a) n c w
   go_enter Tryz.func74,Tryz.ntmps74
   go_wp2_with (first|((with_reducible apply wq_bs0 bs0_b hm);exact rfl;clear hm;intro gz w hm)|((with_reducible show wpList _ _ _ (Oper.mk _ (Op.call _) _ _ _ _::_) _ _);refine wplO_app (M:=[⟨gz,5,[]⟩]) (R:=[]) (ds:=l.map v8) hm (slo_room0 gz _ 1) rfl rfl rfl rfl Tryz.underlying22 LY.out (cellsB (HL.out.ext hm.x)) (one_map _) FIT.out ?_;clear hm;intro v1 w M1 hm hs1;obtain⟨p_v1,c_v1,rfl⟩:=hs1.form;simp only [Nat.zero_add,List.nil_append]at hs1⊢))
   go_ret
   exact⟨_,M1,rfl,hs1,by simpa using hm⟩
theorem zeros_part(n:Nat)(f:Nat→Byte):zeros n=part n 0 f (fun _=>0#8):=nth_ext (by rw [zeros_length,part_length]) fun i hi=>by
 rw [zeros_length]at hi
 rw [nth_part_ge hi (Nat.zero_le _)]
 simp [zeros,nth,hi]
theorem nib_even(b:List Byte)(k q:Nat)(hq:k=2*q):nibL b k=(nth b q>>>4)&&&15#8:=by
 subst hq
 rw [nibL,show 2*q/2=q by omega,show 2*q%2=0 by omega]
theorem nib_odd(b:List Byte)(k q:Nat)(hq:k=2*q+1):nibL b k=nth b q&&&15#8:=by
 subst hq
 rw [nibL,show(2*q+1)/2=q by omega,show(2*q+1)%2=1 by omega]
 show(nth b q>>>0)&&&15#8=_
 rw [BitVec.ushiftRight_zero]
theorem halves_new(l:List Byte)(p:Option Addr)(c:Nat)(fb n fc k B:Nat)(hn:FlIn fb n B (2*l.length))(hk:FlIn fc k B (2*l.length))(h:n+k≤2*l.length)(hl:l.length≤1000)(w0:World)(hr:RdB w0 p l):
   Calls Tryz.prog 135 #[.slice p l.length c, .complex .f64 fb fc] w0 fun e w'=>∃g,e= .returned (.tuple #[.slice (some ⟨g,0,none⟩) k k, .bool true])∧Own w0 w' [⟨g,5,(halvesL l n k).map v8⟩]:=by
 have hm:=Own.start w0
 have W1:=hid fun w=>show Calls Tryz.prog 148 #[.complex .f64 fb fc, .int .i64 (2*(l.length:Int))] w fun e w'=>e= .returned (.tuple #[.int .i64 (n:Int), .int .i64 (k:Int), .bool true])∧Ext w w' from by
   have:=whole_any fb n fc k B (2*l.length) hn hk h (by omega) w
   rwa [show((2*l.length:Nat):Int)=2*(l.length:Int)by omega]at this
 have b1:2*(l.length:Int)≤9223372036854775807:=by omega
 have HR:=hid hr
 have EZ:=hid (zeros_part k fun i=>nibL l (n+i))
 have EE:Hid (part k k (fun i=>nibL l (n+i)) (fun _=>0#8)=halvesL l n k):=hid part_all
 clear hn hk hr
 go_enter Tryz.func135,Tryz.ntmps135
 go_wp2_with (first|(go_at_call 148;(with_reducible refine(W1.out _).mono ?_);rintro e_ w ⟨rfl,hx_⟩;replace hm:=hm.ext hx_;clear hx_)|((with_reducible apply wq_mkR k k hm);exact rfl;exact rfl;exact rfl;exact rfl;(focus omega);(focus omega);(focus omega);clear hm;intro g1 w hm))
 rw [EZ.out]at hm
 go_loopw [27] (fun i wr=>∃j:Nat,j≤k∧i= .int .i64 j∧Own w0 wr [⟨g1,5,(part k j (fun i=>nibL l (n+i)) (fun _=>0#8)).map v8⟩]) (fun i _=>k-(intOf i).toNat)
 case atStart=>exact⟨0,by omega,rfl,hm⟩
 case round=>
   obtain⟨j,hj,rfl,hm⟩:=hrel
   by_cases hlt:j<k
   · have hd:decide ((j:Int)<(k:Int))=true:=decide_eq_true (by omega)
     have hd2:(j:Int)<(k:Int):=by omega
     obtain⟨J,hJ⟩:∃J,J=n+j:=⟨_,rfl⟩
     obtain⟨q,hq⟩:∃q,q=J/2:=⟨_,rfl⟩
     have x1:(n:Int)+(j:Int)=(J:Int):=by omega
     have x2:(J:Int)/2=(q:Int):=by omega
     have x3:(J:Int).tdiv 2=(q:Int):=by rw [Int.tdiv_eq_ediv_of_nonneg (by omega)];exact x2
     have hc:=(HR.out.ext hm.x).at q (by omega)
     obtain⟨a,rfl⟩:=Option.isSome_iff_exists.1 (HR.out.1 (by omega))
     simp only [Option.getD_some]at hc
     rw [show l.getD q 0=nth l q from rfl]at hc
     have x4:q<l.length:=by omega
     have x5:(q:Int)<(l.length:Int):=by omega
     have EJ:Hid (setN (part k j (fun i=>nibL l (n+i)) (fun _=>0#8)) j (nibL l J)=part k (j+1) (fun i=>nibL l (n+i)) (fun _=>0#8)):=hid (by rw [hJ];exact part_set (f:=fun i=>nibL l (n+i)) hlt)
     have lJ:(part k j (fun i=>nibL l (n+i)) (fun _=>0#8)).length=k:=part_length
     generalize part k j (fun i=>nibL l (n+i)) (fun _=>0#8)=C at*
     rcases Nat.mod_two_eq_zero_or_one J with hp|hp
     · have y1:(J:Int)%2=0:=by omega
       have y2:(J:Int).tmod 2=0:=by rw [Int.tmod_eq_emod_of_nonneg (by omega)];exact y1
       have eN:=hid (nib_even l J q (by omega))
       clear hp hq hJ
       go_wp2_with (first|((((with_reducible show qSt);first|(refine zD hm ?_)));clear hm;intro w hm))
       go_roundw
       case rel=>rw [←eN.out,EJ.out]at hm;exact⟨j+1,by omega,by go_num,hm⟩
       case measure=>simp [intOf]<;>omega
     · have y1:(J:Int)%2=1:=by omega
       have y2:(J:Int).tmod 2=1:=by rw [Int.tmod_eq_emod_of_nonneg (by omega)];exact y1
       have eN:=hid (nib_odd l J q (by omega))
       clear hp hq hJ
       go_wp2_with (first|((((with_reducible show qSt);first|(refine zD hm ?_)));clear hm;intro w hm))
       go_roundw
       case rel=>rw [←eN.out,EJ.out]at hm;exact⟨j+1,by omega,by go_num,hm⟩
       case measure=>simp [intOf]<;>omega
   · obtain rfl:j=k:=by omega
     have hd:decide ((j:Int)<(j:Int))=false:=decide_eq_false (by omega)
     rw [EE.out]at hm
     go_wp2_with fail
     go_ret2
     exact⟨g1,rfl,hm⟩
def joinG(hs:List Byte)(i:Nat):List Byte:=tab ((hs.length+1)/2) fun q=>(if 2*q<i then(nth hs (2*q)&&&15#8)<<<4 else 0#8)|||(if 2*q+1<i then nth hs (2*q+1)&&&15#8 else 0#8)
theorem joinG_length(hs:List Byte)(i:Nat):(joinG hs i).length=(hs.length+1)/2:=tab_length
theorem joinG_zero(hs:List Byte):zeros ((hs.length+1)/2)=joinG hs 0:=nth_ext (by rw [zeros_length,joinG_length]) fun i hi=>by
 rw [zeros_length]at hi
 rw [joinG,nth_tab hi,if_neg (by omega),if_neg (by omega)]
 simp [zeros,nth,hi]
theorem joinG_all(hs:List Byte):joinG hs hs.length=joinN hs:=nth_ext (by rw [joinG_length,joinN_length]) fun i hi=>by
 rw [joinG_length]at hi
 rw [joinG,joinN,nth_tab hi,nth_tab hi,if_pos (by omega)]
 by_cases e:2*i+1<hs.length
 · rw [if_pos e]
 · rw [if_neg e,nth_ge (l:=hs) (i:=2*i+1) (by omega)];rfl
theorem joinG_even(hs:List Byte)(i q:Nat)(hi:i<hs.length)(hq:i=2*q):setN (joinG hs i) q (nth (joinG hs i) q|||((nth hs i&&&15#8)<<<4))=joinG hs (i+1):=nth_ext (by rw [setN_length,joinG_length,joinG_length]) fun j hj=>by
 rw [setN_length,joinG_length]at hj
 subst hq
 rw [nth_set (by rw [joinG_length];exact hj),joinG,joinG,nth_tab hj,nth_tab (by omega),nth_tab hj]
 by_cases e:q=j
 · subst e
   rw [if_pos rfl,if_neg (by omega),if_neg (by omega),if_pos (by omega),if_neg (by omega)]
   simp
 · rw [if_neg e]
   congr 1
   · by_cases h:2*j<2*q
     · rw [if_pos h,if_pos (by omega)]
     · rw [if_neg h,if_neg (by omega)]
   · by_cases h:2*j+1<2*q
     · rw [if_pos h,if_pos (by omega)]
     · rw [if_neg h,if_neg (by omega)]
theorem joinG_odd(hs:List Byte)(i q:Nat)(hi:i<hs.length)(hq:i=2*q+1):setN (joinG hs i) q (nth (joinG hs i) q|||(nth hs i&&&15#8))=joinG hs (i+1):=nth_ext (by rw [setN_length,joinG_length,joinG_length]) fun j hj=>by
 rw [setN_length,joinG_length]at hj
 subst hq
 rw [nth_set (by rw [joinG_length];exact hj),joinG,joinG,nth_tab hj,nth_tab (by omega),nth_tab hj]
 by_cases e:q=j
 · subst e
   rw [if_pos rfl,if_pos (by omega),if_neg (by omega),if_pos (by omega),if_pos (by omega)]
   simp
 · rw [if_neg e]
   congr 1
   · by_cases h:2*j<2*q+1
     · rw [if_pos h,if_pos (by omega)]
     · rw [if_neg h,if_neg (by omega)]
   · by_cases h:2*j+1<2*q+1
     · rw [if_pos h,if_pos (by omega)]
     · rw [if_neg h,if_neg (by omega)]
theorem join_new(l:List Byte)(p:Option Addr)(c:Nat)(hl:l.length≤1000)(w0:World)(hr:RdB w0 p l):
   Calls Tryz.prog 115 #[.slice p l.length c] w0 fun e w'=>∃g,e= .returned (.slice (some ⟨g,0,none⟩) ((l.length+1)/2) ((l.length+1)/2))∧Own w0 w' [⟨g,5,(joinN l).map v8⟩]:=by
 have hm:=Own.start w0
 have HR:=hid hr
 have EZ:=hid (joinG_zero l)
 have EA:=hid (joinG_all l)
 have E0:=hid (joinG_even l)
 have E1:=hid (joinG_odd l)
 have lG:=hid (joinG_length l)
 obtain⟨m,hm2⟩:∃m,m=(l.length+1)/2:=⟨_,rfl⟩
 have x1:((l.length:Int)+1)/2=(m:Int):=by omega
 have x2:((l.length:Int)+1).tdiv 2=(m:Int):=by rw [Int.tdiv_eq_ediv_of_nonneg (by omega)];exact x1
 rw [←hm2]at EZ lG⊢
 have HM:=hid hm2
 have m1:m≤1000:=by omega
 clear hr hm2
 go_enter Tryz.func115,Tryz.ntmps115
 go_wp2_with (first|((with_reducible apply wq_mkR m m hm);exact rfl;exact rfl;exact rfl;exact rfl;(focus omega);(focus omega);(focus omega);clear hm;intro g1 w hm))
 rw [EZ.out]at hm
 go_loopw [13] (fun i wr=>∃j:Nat,j≤l.length∧i= .int .i64 j∧Own w0 wr [⟨g1,5,(joinG l j).map v8⟩]) (fun i _=>l.length-(intOf i).toNat)
 case atStart=>exact⟨0,by omega,rfl,hm⟩
 case round=>
   obtain⟨j,hj,rfl,hm⟩:=hrel
   have lj:=lG.out j
   by_cases hlt:j<l.length
   · have hd:decide ((j:Int)<(l.length:Int))=true:=decide_eq_true (by omega)
     have hd2:(j:Int)<(l.length:Int):=by omega
     have hc:=(HR.out.ext hm.x).at j hlt
     obtain⟨a,rfl⟩:=Option.isSome_iff_exists.1 (HR.out.1 (by omega))
     simp only [Option.getD_some]at hc
     rw [show l.getD j 0=nth l j from rfl]at hc
     obtain⟨q,hq⟩:∃q,q=j/2:=⟨_,rfl⟩
     have y3:(j:Int)/2=(q:Int):=by omega
     have y4:(j:Int).tdiv 2=(q:Int):=by rw [Int.tdiv_eq_ediv_of_nonneg (by omega)];exact y3
     have y5:q<m:=by have:=HM.out;omega
     have y6:(q:Int)<(m:Int):=by omega
     rcases Nat.mod_two_eq_zero_or_one j with hp|hp
     · have y1:(j:Int)%2=0:=by omega
       have y2:(j:Int).tmod 2=0:=by rw [Int.tmod_eq_emod_of_nonneg (by omega)];exact y1
       have eN:=hid (E0.out j q hlt (by omega))
       clear hp hq
       generalize hG2:joinG l (j+1)=G2 at*
       generalize joinG l j=G1 at*
       have HG2:=hid hG2
       clear hG2
       go_wp2_with fail
       refine rgE 14 34 ?_
       simp only [tSC,tZe,dSC,dZe,mCo,mNi]
       repeat (first
           | (apply walk_is rfl rfl rfl
              · (intro wx hwx;first|((with_reducible show qGl);first|(exact zJ (hm.ext hwx)))|(go_simp;(try go_bits);first|exact gives_same|exact gives_skip))
              · (simp only [Act.put,sIB,sCS,sCZ];rfl))
           | (apply walk_not rfl rfl rfl
              · (simp only [Act.put,sIB,sCS,sCZ];rfl)))
       intro wz hwz
       simp only [zCC,zNR]
       repeat (first|rw [fin_is]|(rw [fin_cons];intro _ _))
       rw [fin_nil]
       try (replace hm:=hm.ext hwz)
       simp only [Act.put,sIB,sCS,sCZ]
       go_wp2_with (first|((((with_reducible show qSt);first|(refine zD hm ?_)));clear hm;intro w hm))
       go_roundw
       case rel=>rw [eN.out]at hm;exact⟨j+1,by omega,by go_num,by rw [HG2.out];exact hm⟩
       case measure=>simp [intOf]<;>omega
     · have y1:(j:Int)%2=1:=by omega
       have y2:(j:Int).tmod 2=1:=by rw [Int.tmod_eq_emod_of_nonneg (by omega)];exact y1
       have eN:=hid (E1.out j q hlt (by omega))
       clear hp hq
       generalize hG2:joinG l (j+1)=G2 at*
       generalize joinG l j=G1 at*
       have HG2:=hid hG2
       clear hG2
       go_wp2_with fail
       refine rgE 14 34 ?_
       simp only [tSC,tZe,dSC,dZe,mCo,mNi]
       repeat (first
           | (apply walk_is rfl rfl rfl
              · (intro wx hwx;first|((with_reducible show qGl);first|(exact zJ (hm.ext hwx)))|(go_simp;(try go_bits);first|exact gives_same|exact gives_skip))
              · (simp only [Act.put,sIB,sCS,sCZ];rfl))
           | (apply walk_not rfl rfl rfl
              · (simp only [Act.put,sIB,sCS,sCZ];rfl)))
       intro wz hwz
       simp only [zCC,zNR]
       repeat (first|rw [fin_is]|(rw [fin_cons];intro _ _))
       rw [fin_nil]
       try (replace hm:=hm.ext hwz)
       simp only [Act.put,sIB,sCS,sCZ]
       go_wp2_with (first|((((with_reducible show qSt);first|(refine zD hm ?_)));clear hm;intro w hm))
       go_roundw
       case rel=>rw [eN.out]at hm;exact⟨j+1,by omega,by go_num,by rw [HG2.out];exact hm⟩
       case measure=>simp [intOf]<;>omega
   · obtain rfl:j=l.length:=by omega
     have hd:decide ((l.length:Int)<(l.length:Int))=false:=decide_eq_false (by omega)
     rw [EA.out]at hm
     go_wp2_with fail
     go_ret
     exact⟨g1,rfl,hm⟩
theorem fl0:flv 0=0:=by decide+kernel
theorem own_subT {w0 w:World}{L M:List Blk}(h:Own w0 w L)(hs:M.Sublist L):Own w0 w M:=⟨h.1,h.2.1.sublist (hs.map _),fun b hb=>h.2.2 b (hs.subset hb)⟩
theorem build_halves(a b:Option Addr)(n m c d:Nat)(w:World):(Instr.build 197 #[(0, .slice a n c),(1, .slice b m d)]).run Tryz.prog w= .ok (.agg ([.slice a n c, .slice b m d]:List Value).toArray) w:=by kernel_rfl
instance many_halves:Many Tryz.prog 197 2:=⟨by kernel_rfl,by kernel_rfl⟩
theorem two_one {a b:Option Addr}{n m c d:Nat}:∀v∈([.slice a n c, .slice b m d]:List Value),v.oneCell'=true:=by
 intro v hv
 simp only [List.mem_cons,List.not_mem_nil,or_false]at hv
 rcases hv with rfl|rfl<;>rfl
theorem halves_pair(l:List Byte)(p:Option Addr)(c:Nat)(hl:l.length≤31)(w0:World)(hr:RdB w0 p l):
   Calls Tryz.prog 113 #[.slice p l.length c] w0 fun e w'=>∃g k,e= .returned (.agg ([.slice (some ⟨g,0,none⟩) l.length l.length, .slice (some ⟨k,0,none⟩) l.length l.length]:List Value).toArray)∧Own w0 w' [⟨k,5,(halvesL l l.length l.length).map v8⟩,⟨g,5,(halvesL l 0 l.length).map v8⟩]:=by
 have hm:=Own.start w0
 obtain⟨f1,f2,_,_⟩:=fl_tiny_at l.length hl
 have h1:=conv_if f2.of
 have C1:=hid fun w (hx:Ext w0 w)=>show Calls Tryz.prog 135 #[.slice p l.length c, .complex .f64 0 (flv l.length)] w fun e w'=>∃g,e= .returned (.tuple #[.slice (some ⟨g,0,none⟩) l.length l.length, .bool true])∧Own w w' [⟨g,5,(halvesL l 0 l.length).map v8⟩]from by
   have:=halves_new l p c _ 0 _ l.length _ f1 f2 (by omega) (by omega) w (hr.ext hx)
   rwa [fl0]at this
 have C2:=hid fun w (hx:Ext w0 w)=>halves_new l p c _ l.length _ l.length _ f2 f2 (by omega) (by omega) w (hr.ext hx)
 generalize flv l.length=b at*
 clear f1 f2 hr
 go_enter Tryz.func113,Tryz.ntmps113
 go_wp2_with (first|((first|((with_reducible show qAl);first|(refine zG hm ?_)));clear hm;intro gx_;intro w hm))
 refine(C1.out _ hm.x).mono ?_
 rintro e w ⟨g,rfl,hmM⟩
 have hm2:=Own.join hm hmM
 clear hm hmM
 try simp only [List.cons_append,List.nil_append]at hm2
 have hm:=hm2
 clear hm2
 go_wp2_with fail
 refine(C2.out _ hm.x).mono ?_
 rintro e w ⟨k,rfl,hmM⟩
 have hm2:=Own.join hm hmM
 clear hm hmM
 try simp only [List.cons_append,List.nil_append]at hm2
 have hm:=hm2
 clear hm2
 go_wp2_with (first|((with_reducible apply wq_build2 (build_halves (some ⟨g,0,none⟩) (some ⟨k,0,none⟩) l.length l.length l.length l.length));exact rfl;exact rfl;exact rfl)|((with_reducible show wpList _ _ _ (Oper.mk _ (Op.store 197 _ _) _ _ _ _::_) _ _);(with_reducible apply wq_stW (cs':=[.slice (some ⟨g,0,none⟩) l.length l.length, .slice (some ⟨k,0,none⟩) l.length l.length]) hm);exact rfl;infer_instance;exact rfl;exact rfl;(focus ((repeat (first|exact .hd|apply Swap.tl|apply Swap.app|apply Swap.app));done));exact rfl;exact rfl;(exact two_one);clear hm;intro w hm))
 refine ret_own hm rfl rfl many_halves (by repeat (first|exact Has.hd|assumption|apply Has.tl|apply Has.app)) rfl rfl ?_
 exact⟨g,k,rfl,own_subT hm (by repeat (first|exact List.Sublist.refl _|exact List.nil_sublist _|apply List.Sublist.cons_cons|apply List.Sublist.cons))⟩
section
variable {P:Program} {ops:Array Oper} {Q:Exit→Act→World→Prop} {rest:List Oper} {dst:Option Tmp} {ty:TypeId} {pos:String} {aft:Array Edge} {gd:Option (Nat×Bool)} {a:Act} {w0 w:World} {L:List Blk} {T e:TypeId} {u0 u1 u2:Value} {x0 x1 x2:Operand} {ks:List (List Byte)}
theorem bs_run3(a b c:List Byte)(ha:a.length=16)(hb:b.length=16)(hc:c.length=16)(w:World):(Instr.buildSlice 161 3 #[(0,A8 a),(1,A8 b),(2,A8 c)]).run Tryz.prog w= .ok (.slice (some ⟨w.heap.size,0,none⟩) 3 3) (w.alloc (.cells (catV [a,b,c]).toArray 132)):=by
 obtain⟨a0,a1,a2,a3,a4,a5,a6,a7,a8,a9,a10,a11,a12,a13,a14,a15,rfl⟩:=len16 a ha
 obtain⟨b0,b1,b2,b3,b4,b5,b6,b7,b8,b9,b10,b11,b12,b13,b14,b15,rfl⟩:=len16 b hb
 obtain⟨c0,c1,c2,c3,c4,c5,c6,c7,c8,c9,c10,c11,c12,c13,c14,c15,rfl⟩:=len16 c hc
 kernel_rfl
theorem gq_bs3(hk:∀k∈ks,k.length=16)(hb:(Instr.buildSlice T 3 #[(0,u0),(1,u1),(2,u2)]).run P w= .ok (.slice (some ⟨w.heap.size,0,none⟩) ks.length ks.length) (w.alloc (.cells (catV ks).toArray e)))(hx0:a.eval x0=u0)(hx1:a.eval x1=u1)(hx2:a.eval x2=u2):gives P w (KeysS ks) ((execOp a.eval (Oper.mk dst (.buildSlice T 3 #[(0,x0),(1,x1),(2,x2)]) ty pos aft gd)).run P w):=by
 unfold execOp
 simp [hx0,hx1,hx2,hb]
 exact gives_val (V:=KeysS ks) (Ext.alloc (Ext.refl _) _) (keys_new w e ks hk)
end
theorem cell1_g {w0 w:World}{L:List Blk}{g:Nat}{t:TypeId}{v:Value}(hm:Own w0 w L)(hh:Has L ⟨g,t,[v]⟩):∀(j:Nat)(u:Value),([v]:List Value)[j]? =some u→∃a,(some ⟨g,0,none⟩:Option Addr)=some a∧w.cell? (a.add j)=some u:=by
 intro j u hj
 cases j with
 | zero=>
   simp at hj
   subst hj
   refine⟨_,rfl, ?_⟩
   have:=row_cell (hm.row hh) 0
   exact this
 |succ j=>simp at hj
theorem bs1_8(w:World):(Instr.buildSlice 22 1 #[(0, .int .u8 8)]).run Tryz.prog w= .ok (.slice (some ⟨w.heap.size,0,none⟩) 1 1) (w.alloc (.cells [v8 8#8].toArray 5)):=by kernel_rfl
theorem step_new(g:Nat)(F:Int→Int→List Byte→List Byte)(hF:∀j m x,(F j m x).length=16)(h:List Byte)(hh:h.length=16)(i:Int)(hi:0≤i)(hi2:i≤9223372036854775807)(j:Nat)(hj:j≤9223372036854775807)(l:List Byte)(p:Option Addr)(c:Nat)(hl:l.length≤31)(w0:World)(hr:RdB w0 p l)
   (CE:∀wx,Ext w0 wx→∀(j m:Int)(x:List Byte),x.length=16→j≤9223372036854775807→m≤9223372036854775807→Gives Tryz.prog 98 #[.pointer (some ⟨g,0,none⟩), .int .i64 j, .int .i64 m,A8 x] wx (A8 (F j m x))):
   Calls Tryz.prog 114 #[.pointer (some ⟨g,0,none⟩),A8 h, .int .i64 i, .int .i64 (j:Int), .slice p l.length c] w0 fun e w'=>∃k,e= .returned (.slice (some ⟨k,0,none⟩) l.length l.length)∧Own w0 w' [⟨k,5,(stepL F h i j l).map v8⟩]:=by
 have hm:=Own.start w0
 obtain⟨_,_,f3,f4⟩:=fl_tiny_at l.length hl
 have h1:=conv_if f4.of
 have CL:=hid fun w (hx:Ext w0 w)=>clone_sl l p c w (hr.ext hx) (by omega)
 obtain⟨B,hB⟩:∃B,B=blk (joinN (l++[8#8])):=⟨_,rfl⟩
 obtain⟨C,hC⟩:∃C,C=cntB j:=⟨_,rfl⟩
 obtain⟨S,hS⟩:∃S,S=bothL (bothL B h) C:=⟨_,rfl⟩
 obtain⟨X,hX⟩:∃X,X=F 0 i S:=⟨_,rfl⟩
 have lB:B.length=16:=by rw [hB];exact blk_length _
 have lC:C.length=16:=by rw [hC];exact cntB_length _
 have lS:S.length=16:=by rw [hS];exact bothL_length _ _
 have lX:X.length=16:=by rw [hX];exact hF _ _ _
 have eR:stepL F h i j l=halvesL X 0 l.length:=by rw [hX,hS,hC,hB];rfl
 have J1:=hid fun w p2 n2 c2 (h:RdB w p2 (l++[8#8])∧n2=(l++[8#8]).length∧n2≤c2)=>show Calls Tryz.prog 115 #[.slice p2 n2 c2] w fun e w'=>∃g,e= .returned (.slice (some ⟨g,0,none⟩) (joinN (l++[8#8])).length (joinN (l++[8#8])).length)∧Own w w' [⟨g,5,(joinN (l++[8#8])).map v8⟩]from by
   rw [h.2.1,joinN_length]
   exact join_new (l++[8#8]) p2 c2 (by simp;omega) w h.1
 have D1:=hid fun w p2 c2 (h:RdB w p2 (joinN (l++[8#8])))=>(hB ▸ oblock_any (joinN (l++[8#8])) p2 c2 w h:Gives Tryz.prog 69 #[.slice p2 (joinN (l++[8#8])).length c2] w (A8 B))
 have C1:=hid fun w=>hC ▸ tcounted_any j hj w
 have E1:=hid fun w (hx:Ext w0 w)=>hX ▸ CE w hx 0 i S lS (by omega) hi2
 have P1:=hid fun (w:World)(p:Option Addr)(c:Nat)(hc:3≤c)(hk:RdK w p 16 [B,h,C])=>show Gives Tryz.prog 134 #[.slice p 3 c] w (A8 S)from hS ▸ tplus_three _ _ _ lB p c w hk hc
 have k1:=hid (show∀q∈[B,h,C],q.length=16 from by simp [lB,hh,lC])
 have H1:=hid fun w p2 (h:RdB w p2 X)=>show Calls Tryz.prog 135 #[.slice p2 16 16, .complex .f64 0 (flv l.length)] w fun e w'=>∃g,e= .returned (.tuple #[.slice (some ⟨g,0,none⟩) l.length l.length, .bool true])∧Own w w' [⟨g,5,(halvesL X 0 l.length).map v8⟩]from by
   have:=halves_new X p2 16 (flv 0) 0 (flv l.length) l.length (flv 32) (by rw [lX];exact f3) (by rw [lX];exact f4) (by omega) (by omega) w h
   rwa [lX,fl0]at this
 have FIT:=hid (show(l.length+1)*(1+1)≤140737488355328 by omega)
 have EL:=hid (show l.map v8++[v8 8#8]=(l++[8#8]).map v8 by simp)
 have n1:decide ((31:Int)<(l.length:Int))=false:=decide_eq_false (by omega)
 have n2:¬(31:Int)<(l.length:Int):=by omega
 have n3:decide (i<0)=false:=decide_eq_false (by omega)
 have n4:¬i<0:=by omega
 have n5:decide ((j:Int)<0)=false:=decide_eq_false (by omega)
 rw [eR]
 clear hB hC hS hX eR f3 f4 hr CE hF
 generalize joinN (l++[8#8])=JN at*
 generalize halvesL X 0 l.length=R at*
 generalize flv l.length=b at*
 go_enter Tryz.func114,Tryz.ntmps114
 go_wp2_with (first|((first|((with_reducible show qBx);first|(refine zH hm ?_)));clear hm;(first|(have hx_:=g1;clear hx_;(first|(have hx_:=g2;clear hx_;(first|(have hx_:=g3;clear hx_;(first|(have hx_:=g4;clear hx_;intro gx_)|intro g4))|intro g3))|intro g2))|intro g1);intro w hm))
 refine(CL.out _ hm.x).mono ?_
 rintro e w ⟨v1,M1,rfl,hs1,hmM⟩
 obtain⟨p1,c1,rfl⟩:=hs1.form
 have hm2:=Own.join hm hmM
 have HS1:=hid hs1
 clear hm hmM hs1
 try simp only [List.cons_append,List.nil_append]at hm2
 have hm:=hm2
 clear hm2
 go_wp2_with (first|((with_reducible apply wq_bs1c bs1_8 hm);exact rfl;exact rfl;clear hm;intro gy w hm)|((with_reducible show wpList _ _ _ (Oper.mk _ (Op.call _) _ _ _ _::_) _ _);refine wplO_app (M:=M1) (R:=_) (ds:=[v8 8#8]) (hm.perm (List.perm_middle.symm)) HS1.out rfl rfl rfl rfl Tryz.underlying22 rfl (cell1_g (g:=gy) hm (by repeat (first|exact Has.hd|assumption|apply Has.tl|apply Has.app))) (by intro u hu;rw [List.mem_singleton.1 hu];rfl) FIT.out ?_;clear hm;intro v2 w M2 hm hs2;obtain⟨p_v2,c_v2,rfl⟩:=hs2.form;replace hm:=hm.perm (List.perm_middle)))
 rw [EL.out]at hs2
 have hr2:=slo_bytes hs2 hm.drop
 clear hs2
 refine(J1.out _ _ _ _ hr2).mono ?_
 rintro e w ⟨g2,rfl,hmM⟩
 have hm2:=Own.join hm.drop.dropN hmM
 clear hm hmM hr2
 try simp only [List.cons_append,List.nil_append]at hm2
 have hm:=hm2
 clear hm2
 go_wp2_with (first|(go_at_call 69;(with_reducible refine(D1.out _ _ _ (hm.rdB (g:=g2) (l:=JN) (by repeat (first|exact Has.hd|assumption|apply Has.tl|apply Has.app)))).mono ?_);rintro e_ w ⟨rfl,hx_⟩;replace hm:=hm.ext hx_;clear hx_)|((((with_reducible show qSt);first|(refine zE hm ?_)));clear hm;intro w hm)|((first|((with_reducible show qAl);first|(refine zG hm ?_)));clear hm;(first|(have hx_:=g1;clear hx_;(first|(have hx_:=g2;clear hx_;(first|(have hx_:=g3;clear hx_;(first|(have hx_:=g4;clear hx_;intro gx_)|intro g4))|intro g3))|intro g2))|intro g1);intro w hm))
 have hx0:=hm.x
 refine region_new 10 (fun w'=>Ext _ w') 55 (by kernel_rfl) (by kernel_rfl) rfl (fun _ _ h k=>h.trans k) (drew_ext _) ?_
 simp only [tSC,tZe,dSC,dZe,mCo,mNi]
 repeat (first
     | (apply walk_some (NewS (w.heap.size) 132 ((zer 16).map v8)) 12 (NewS.stable _ _ _) rfl rfl rfl rfl
        · (intro wx hwx;go_simp;exact gives_new (cs:=(zer 16).map v8) hwx.size))
     |(apply walk_some (KeysS ([B,h,C])) 42 (KeysS.stable _) rfl rfl rfl rfl;(intro wx hwx;exact gq_bs3 (k1.out) (bs_run3 B h C lB hh lC wx) rfl rfl rfl))
     | (apply walk_from (T:=[(42,KeysS [B,h,C])]) rfl rfl
        · (intro wx hwx;simp only [withS];(rintro x_ ⟨p,c,rfl,hlc,hk'⟩);refine⟨rfl, ?_⟩;go_simp;exact gives_call (P1.out wx p c hlc hk'))
        · (simp only [Act.put,sIB,sCS,sCZ];rfl))
     | (apply walk_is rfl rfl rfl
        · (intro wx hwx;first|((with_reducible show qGl);first|(exact zK (hm.ext hwx)))|(go_simp;(try go_bits);first|exact gives_same|exact gives_skip|with_reducible exact gives_call (C1.out wx)|with_reducible exact gives_call (E1.out wx (hx0.trans hwx))))
        · (simp only [Act.put,sIB,sCS,sCZ];rfl))
     | (apply walk_not rfl rfl rfl
        · (simp only [Act.put,sIB,sCS,sCZ];rfl)))
 intro wz hwz
 simp only [zCC,zNR]
 repeat rw [fin_is]
 rw [fin_cons];intro y42 hy42
 repeat rw [fin_is]
 rw [fin_cons];intro x12 hx12
 repeat rw [fin_is]
 rw [fin_nil];intro hap
 simp only [Act.put,sIB,sCS,sCZ]at hap⊢
 clear hy42
 obtain⟨g12_,rfl,hg12,hr12⟩:=hx12
 replace hm:=hm.push hwz hg12 hr12
 clear hap hr12
 clear hx0
 go_wp2_with (first|((((with_reducible show qSt);first|(refine zE hm ?_)));clear hm;intro w hm))
 refine(H1.out _ _ (hm.rdB (g:=g12_) (l:=X) (by repeat (first|exact Has.hd|assumption|apply Has.tl|apply Has.app)))).mono ?_
 rintro e w ⟨g4,rfl,hmM⟩
 have hm2:=Own.join hm hmM
 clear hm hmM
 try simp only [List.cons_append,List.nil_append]at hm2
 have hm:=hm2
 clear hm2
 go_wp2_with fail
 go_ret
 exact⟨g4,rfl,own_subT hm (by repeat (first|exact List.Sublist.refl _|exact List.nil_sublist _|apply List.Sublist.cons_cons|apply List.Sublist.cons))⟩
end Go.Proofs.YtneacgpmjlocjaaGreatDoor
