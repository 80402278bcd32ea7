/-
  Texts of the program, walked, and plain ones. Conditions: those written in each theorem.
-/
import Derived.Test.YtllnjbiebdkmbaaGreatDoorZTopReturns0
import Derived.Test.YtllnjbiebdkmbaaGreatDoorZTopReturns18
import Derived.Test.YtllnjbiebdkmbaaGreatDoorZTopReturns21
import Derived.Test.YtllnjbiebdkmbaaGreatDoorZTopReturns14
import Derived.Test.YtllnjbiebdkmbaaGreatDoorZTopReturns24
import Derived.Test.YtllnjbiebdkmbaaGreatDoorZTopReturns25
import Derived.Test.YtllnjbiebdkmbaaGreatDoorZTopReturns12
import Derived.Test.YtllnjbiebdkmbaaGreatDoorZTopReturns13
set_option linter.unusedSimpArgs false
set_option linter.unusedVariables false
set_option maxHeartbeats 16000000
namespace Go.Proofs.YtllnjbiebdkmbaaGreatDoor
open Go Go.RowKit
set_option maxRecDepth 100000
def xcB(k0:List Byte)(ks:List (List Byte))(kl s:List Byte)(k:Nat):List Byte:=aesE k0 ks kl (xbL s (BitVec.ofNat 64 (k+1)))
theorem xcB_length(k0:List Byte)(ks:List (List Byte))(kl s:List Byte)(k:Nat):(xcB k0 ks kl s k).length=16:=aesE_length _ _ _ _
def xcL(k0:List Byte)(ks:List (List Byte))(kl s b:List Byte):List Byte:=strL 16 (xcB k0 ks kl s) b
theorem xcL_length(k0:List Byte)(ks:List (List Byte))(kl s b:List Byte):(xcL k0 ks kl s b).length=b.length:=strL_length 16 (by omega) _ (xcB_length _ _ _ _) b
theorem xcryptO(g:Nat)(k0 kl:List Byte)(ks:List (List Byte))(s b:List Byte)(hs:s.length=16)(hb:b.length≤70368744177000)(p:Option Addr)(c:Nat)(w0:World)(h:AesR w0 g k0 ks kl)(hr:RdB w0 p b)(hc:b.length≤c):
   Calls Tryz.prog 163 #[.pointer (some ⟨g,0,none⟩),A8 s, .slice p b.length c] w0 fun e w'=>∃v M R,e= .returned (.tuple #[v, .int .i64 0])∧Own w0 w' (M++R)∧SlO M 5 1 v b.length ((xcL k0 ks kl s b).map v8):=by
 have hm:=Own.start w0
 have EL:=Lib.hid (show xcL k0 ks kl s b=strF 16 (xcB k0 ks kl s) b (strN 16 b.length)from rfl)
 have RL:=Lib.hid (xcL_length k0 ks kl s b)
 have BK:=Lib.hid fun w (hx:Ext w0 w) k=>(show Gives Tryz.prog 166 #[.pointer (some ⟨g,0,none⟩),A8 s,v64 (BitVec.ofNat 64 (k+1))] w (A8 (xcB k0 ks kl s k))from xblock_any g k0 kl ks s hs (BitVec.ofNat 64 (k+1)) w (h.ext hx))
 have lX:=fun k=>xcB_length k0 ks kl s k
 generalize xcL k0 ks kl s b=RES at*
 generalize xcB k0 ks kl s=S at*
 have LX:=Lib.hid lX
 have LB:=Lib.hid fun k=>strF_length 16 S lX b k
 have E0:=Lib.hid (show strF 16 S b 0=[]from rfl)
 have EK:=Lib.hid fun k=>(show strF 16 S b (k+1)=strF 16 S b k++xorL (b.drop (16*k)) (S k)from rfl)
 have NL:=Lib.hid (strN_le 16 b.length (by omega))
 have NT:=Lib.hid fun k (h:k<strN 16 b.length)=>strN_lt 16 b.length k (by omega) h
 generalize strF 16 S b=F at*
 generalize strN 16 b.length=n at*
 have XO:=Lib.hid fun (k L e:Nat)(w:World)(q r:Option Addr)(d:Nat)(hL:(b.drop (16*k)).length=L)(h1:RdB w q (b.drop (16*k)))(h2:RdB w r (S k))=>(show GivesR Tryz.prog 57 #[.slice q L e, .slice r 16 d] w (BytesS (xorL (b.drop (16*k)) (S k)))from by
   have:=xor_any (b.drop (16*k)) (S k) q r e d w h1 h2 (by rw [List.length_drop];omega) (by rw [lX];omega)
   rwa [hL,lX]at this)
 have HR:=Lib.hid hr
 have LB0:=Lib.hid hb
 have HC:=Lib.hid hc
 have h1:=Nat.le_of_eq hs
 have h2:=Nat.le_of_eq hs.symm
 clear h hs lX hr
 generalize hBL0:b.length=BL0 at*
 have HBL:=Lib.hid hBL0
 clear hBL0
 go_enter Tryz.func163,Tryz.ntmps163
 go_wp2_with (first|((first|((with_reducible show qBx);first|((with_reducible apply wq_boxN hm);exact rfl;exact rfl)));clear hm;(first|(have hx_:=g1;clear hx_;(first|(have hx_:=g2;clear hx_;intro gx_)|intro g2))|intro g1);intro w hm))
 refine wp_scope_goto 0 (fun a_ w_=>∃(k L e o d:Nat)(q r:Option Addr)(i:BitVec 64)(M:List Blk)(u3 u5 u10 u11 u12 u13 u14 u15 u16 u17 u18 u19 u20 u21 u22 u23 u24 u25 u26 u27 u28 u29 u30 u31 u32 u33 u34 u35 u36:Value),a_={tmps:= #[(.pointer (some ⟨g,0,none⟩)),(A8 s),(.slice q L e),u3,(.pointer (some ⟨g1,0,none⟩)),u5,(.slice none 0 0),(.int .i64 0),(.slice r o d),(v64 i),u10,u11,u12,u13,u14,u15,u16,u17,u18,u19,u20,u21,u22,u23,u24,u25,u26,u27,u28,u29,u30,u31,u32,u33,u34,u35,u36],defers:=[]}∧SlO M 5 1 (.slice r o d) o ((F k).map v8)∧Own w0 w_ (M++[⟨g1,68,s.map v8⟩])∧k≤n∧L=BL0-16*k∧L≤e∧i=BitVec.ofNat 64 (k+1)∧(0<L→RdB w0 q (b.drop (16*k)))) (fun a_ _=>slen (a_.tmps.getD 2 undef)) rfl ?_ ?_
 · clear hm
   have key_:∀(P_:Act→World→Prop),(∀(w_:World)(k L e o d:Nat)(q r:Option Addr)(i:BitVec 64)(M:List Blk)(u3 u5 u10 u11 u12 u13 u14 u15 u16 u17 u18 u19 u20 u21 u22 u23 u24 u25 u26 u27 u28 u29 u30 u31 u32 u33 u34 u35 u36:Value),SlO M 5 1 (.slice r o d) o ((F k).map v8)∧Own w0 w_ (M++[⟨g1,68,s.map v8⟩])∧k≤n∧L=BL0-16*k∧L≤e∧i=BitVec.ofNat 64 (k+1)∧(0<L→RdB w0 q (b.drop (16*k)))→P_ {tmps:= #[(.pointer (some ⟨g,0,none⟩)),(A8 s),(.slice q L e),u3,(.pointer (some ⟨g1,0,none⟩)),u5,(.slice none 0 0),(.int .i64 0),(.slice r o d),(v64 i),u10,u11,u12,u13,u14,u15,u16,u17,u18,u19,u20,u21,u22,u23,u24,u25,u26,u27,u28,u29,u30,u31,u32,u33,u34,u35,u36],defers:=[]} w_)→∀(a_:Act)(w_:World),(∃(k L e o d:Nat)(q r:Option Addr)(i:BitVec 64)(M:List Blk)(u3 u5 u10 u11 u12 u13 u14 u15 u16 u17 u18 u19 u20 u21 u22 u23 u24 u25 u26 u27 u28 u29 u30 u31 u32 u33 u34 u35 u36:Value),a_={tmps:= #[(.pointer (some ⟨g,0,none⟩)),(A8 s),(.slice q L e),u3,(.pointer (some ⟨g1,0,none⟩)),u5,(.slice none 0 0),(.int .i64 0),(.slice r o d),(v64 i),u10,u11,u12,u13,u14,u15,u16,u17,u18,u19,u20,u21,u22,u23,u24,u25,u26,u27,u28,u29,u30,u31,u32,u33,u34,u35,u36],defers:=[]}∧SlO M 5 1 (.slice r o d) o ((F k).map v8)∧Own w0 w_ (M++[⟨g1,68,s.map v8⟩])∧k≤n∧L=BL0-16*k∧L≤e∧i=BitVec.ofNat 64 (k+1)∧(0<L→RdB w0 q (b.drop (16*k))))→P_ a_ w_:=
     fun P_ h_ a_ w_ z=>z.elim fun k z=>z.elim fun L z=>z.elim fun e z=>z.elim fun o z=>z.elim fun d z=>z.elim fun q z=>z.elim fun r z=>z.elim fun i z=>z.elim fun M z=>z.elim fun u3 z=>z.elim fun u5 z=>z.elim fun u10 z=>z.elim fun u11 z=>z.elim fun u12 z=>z.elim fun u13 z=>z.elim fun u14 z=>z.elim fun u15 z=>z.elim fun u16 z=>z.elim fun u17 z=>z.elim fun u18 z=>z.elim fun u19 z=>z.elim fun u20 z=>z.elim fun u21 z=>z.elim fun u22 z=>z.elim fun u23 z=>z.elim fun u24 z=>z.elim fun u25 z=>z.elim fun u26 z=>z.elim fun u27 z=>z.elim fun u28 z=>z.elim fun u29 z=>z.elim fun u30 z=>z.elim fun u31 z=>z.elim fun u32 z=>z.elim fun u33 z=>z.elim fun u34 z=>z.elim fun u35 z=>z.elim fun u36 z=>Eq.subst (motive:=fun z_=>P_ z_ w_) z.1.symm (h_ w_ k L e o d q r i M u3 u5 u10 u11 u12 u13 u14 u15 u16 u17 u18 u19 u20 u21 u22 u23 u24 u25 u26 u27 u28 u29 u30 u31 u32 u33 u34 u35 u36 z.2)
   refine key_ _ ?_
   clear key_
   intro w k L e o d q r i M u3 u5 u10 u11 u12 u13 u14 u15 u16 u17 u18 u19 u20 u21 u22 u23 u24 u25 u26 u27 u28 u29 u30 u31 u32 u33 u34 u35 u36
   rintro ⟨hso,hm,hkn,hL,hLe,hiv,hrd⟩
   by_cases h0:L=0
   · have hkn2:k=n:=by
       apply Classical.byContradiction;intro h
       have:=NT.out k (by omega)
       omega
     subst hkn2
     subst h0
     obtain⟨_,_,hv,hnc0,_,_⟩:=hso.cells hm
     cases hv
     have ho:o=BL0:=by
       have h1:=hso.1
       rw [List.length_map,LB.out,Nat.mul_one]at h1
       have:=NL.out
       omega
     subst ho
     rw [←EL.out]at hso
     have HSO:=Lib.hid hso
     clear hso hnc0 hL hLe hiv hrd
     go_wp2_with fail
     simp only [Exit.jump]
     go_ret2
     exact⟨_,M,_,rfl,hm,HSO.out⟩
   · have hlt:k<n:=by
       apply Classical.byContradiction;intro h
       have hkn2:k=n:=by omega
       subst hkn2
       have:=NL.out
       omega
     have hrd1:=Lib.hid fun wx (hx:Ext w0 wx)=>(hrd (by omega)).ext hx
     have hrd0:=Lib.hid (hrd (by omega))
     have lD:(b.drop (16*k)).length=L:=by rw [List.length_drop,HBL.out,hL]
     have XR:=Lib.hid fun (wx:World)(r:Option Addr)(d:Nat)(h1:RdB wx q (b.drop (16*k)))(h2:RdB wx r (S k))=>XO.out k L e wx q r d lD h1 h2
     have lXX:(xorL (b.drop (16*k)) (S k)).length=min L 16:=by rw [xorL_length,lD,LX.out]
     have EKK:=Lib.hid (EK.out k)
     have BLL:=Lib.hid fun wx hx=>BK.out wx hx k
     have FL:=Lib.hid (LB.out k)
     have RDN:=Lib.hid fun (wx:World)(h:RdB wx q (b.drop (16*k)))(m:Nat)=>(show RdB wx (slP q e m) ((b.drop (16*k)).drop m)from h.slL e m (by rw [lD];exact hLe))
     have EDD:=Lib.hid (show(b.drop (16*k)).drop 16=b.drop (16*(k+1))by rw [List.drop_drop,Nat.mul_succ])
     obtain⟨m,hmL⟩:∃m,m=min L 16:=⟨_,rfl⟩
     rw [←hmL]at lXX
     have hm1:m≤L:=by omega
     have HML:=Lib.hid hmL
     have LXX:=Lib.hid lXX
     have HSO:=Lib.hid hso
     have HLE:=Lib.hid hLe
     have HL:=Lib.hid hL
     have HNK:=Lib.hid hlt
     have LXM:=Lib.hid (show((xorL (b.drop (16*k)) (S k)).map v8).length=m*1 by rw [List.length_map,lXX,Nat.mul_one])
     have lSK:=LX.out k
     obtain⟨X,hX⟩:∃X,X=xorL (b.drop (16*k)) (S k):=⟨_,rfl⟩
     rw [←hX]at XR EKK LXX LXM
     obtain⟨SK,hSK⟩:∃x,x=S k:=⟨_,rfl⟩
     rw [←hSK]at XR BLL lSK
     have hfit:(o+m)*(1+1)≤140737488355328:=by
       have h1:=hso.1
       rw [List.length_map,FL.out,Nat.mul_one]at h1
       omega
     have HFIT:=Lib.hid hfit
     obtain⟨D0,hD0⟩:∃x,x=b.drop (16*k):=⟨_,rfl⟩
     rw [←hD0]at XR RDN hrd1 hrd0 EDD
     have e0:((L:Int)==0)=false:=by rw [beq_eq_false_iff_ne];omega
     have e1:¬(L:Int)=0:=by omega
     have lK1:=Nat.le_of_eq lSK
     have lK2:=Nat.le_of_eq lSK.symm
     subst hiv
     clear hso hLe hrd lD lXX hX hSK hD0 hfit hL hmL
     go_wp2_with (first|(go_at_call 166;(with_reducible refine(BLL.out _ hm.x).mono ?_);rintro e_ w ⟨rfl,hx_⟩;replace hm:=hm.ext hx_;clear hx_)|((with_reducible show qLd);first|((with_reducible apply wq_ldW hm);exact rfl;infer_instance;exact rfl;(focus ((repeat (first|exact .hd|assumption|apply Has.tl|apply Has.app));done));(focus (first|rfl|omega|(simp;done)|(simp;omega)))))|((((with_reducible show qSt);first|((with_reducible apply wq_stW hm);exact rfl;infer_instance;exact rfl;exact rfl;(focus ((repeat (first|exact .hd|assumption|apply Swap.tl|apply Swap.app));done));(focus (first|rfl|omega|(simp;done)|(simp;omega)));(focus (first|rfl|omega|(simp;done)|(simp;omega)));(focus (first|exact one_map _|(simp [one8,one32,one64];done))))));clear hm;intro w hm)|((first|((with_reducible show qAl);first|((with_reducible apply wq_new hm);exact rfl;infer_instance)));clear hm;(first|(have hx_:=g1;clear hx_;(first|(have hx_:=g2;clear hx_;intro gx_)|intro g2))|intro g1);intro w hm))
     refine(XR.out _ _ _ (hrd1.out _ hm.x) (hm.rdB (l:=SK) .hd)).mono ?_
     rintro e_ w ⟨x,rfl,⟨px,cx,rfl,hcx,hbx⟩,hx_⟩
     replace hm:=hm.ext hx_
     have HBX:=Lib.hid hbx
     clear hx_ hbx
     rw [LXX.out]at hcx⊢
     go_wp2_with (first|((with_reducible show wpList _ _ _ (Oper.mk _ (Op.call _) _ _ _ _::_) _ _);refine wplO_app (M:=M) (R:=_) (ds:=X.map v8) (hm.perm (List.perm_middle.symm)) HSO.out rfl rfl rfl rfl Tryz.underlying22 LXM.out (cells_b HBX.out) (one_map _) HFIT.out ?_;clear hm;intro v1 w M1 hm hs1;obtain⟨p_v1,c_v1,rfl⟩:=hs1.form;replace hm:=hm.perm (List.perm_middle))|((with_reducible apply wq_slL Tryz.underlying22);infer_instance;exact rfl;exact rfl;exact rfl;exact hm1;exact rfl))
     go_step3
     refine⟨rfl,⟨_,_,_,_,_,_,_,_,_,_,_,_,_,_,_,_,_,_,_,_,_,_,_,_,_,_,_,_,_,_,_,_,_,_,_,_,_,_,rfl,⟨(show SlO M1 5 1 _ (o+m) ((F (k+1)).map v8)from by rw [EKK.out,List.map_append];exact hs1),hm.drop,HNK.out,(show L-m=BL0-16*(k+1)from by rw [HML.out,HL.out];omega),(by have:=HLE.out;omega),(show BitVec.ofNat 64 (k+1)+1#64=BitVec.ofNat 64 (k+1+1)from by apply BitVec.eq_of_toNat_eq;simp),fun h=>(show RdB w0 (slP q e m) (b.drop (16*(k+1)))from by have h6:m=16:=(by have:=HML.out;omega);rw [h6,←EDD.out];exact RDN.out w0 hrd0.out 16)⟩⟩, ?_⟩
     show L-m<L
     have:=HML.out
     omega
 · intro hp
   go_wp2_with (first|((with_reducible apply wq_mkR 0 BL0 hm);exact rfl;exact rfl;exact rfl;exact rfl;(focus omega);(focus omega);(focus omega);clear hm;intro g2 w hm))
   rw [show(Value.int IntKind.u64 1)=v64 1#64 from rfl]
   go_step3
   rename_i hK
   exact hK _ _ (hp _ _ ⟨_,_,_,_,_,_,_,_,_,_,_,_,_,_,_,_,_,_,_,_,_,_,_,_,_,_,_,_,_,_,_,_,_,_,_,_,_,_,rfl,⟨by rw [E0.out];exact SlO.room _ _ 1 BL0 ((zeros BL0).map v8) (by simp) (by unfold maxLen;omega),hm,Nat.zero_le _,rfl,HC.out,rfl,fun _=>HR.out⟩⟩)
def OwnL(B n:Nat)(X:List Byte):Slot:=fun v w=>∃M,SlO M 5 1 v n (X.map v8)∧∀b∈M,B≤b.g∧Row w b.g b.t b.cs
theorem OwnL.stable(B n:Nat)(X:List Byte):Stable (OwnL B n X):=fun _ _ _ ⟨M,h1,h2⟩ hx=>⟨M,h1,fun b hb=>⟨(h2 b hb).1,row_ext (h2 b hb).2 hx⟩⟩
def OwnT(B n:Nat)(X:List Byte):Slot:=fun v w=>∃u,v= .tuple #[u, .int .i64 0]∧OwnL B n X u w
theorem OwnT.stable(B n:Nat)(X:List Byte):Stable (OwnT B n X):=fun _ _ _ ⟨u,h1,h2⟩ hx=>⟨u,h1,OwnL.stable _ _ _ _ _ _ h2 hx⟩
theorem ownL_of {w0 w:World}{B n:Nat}{X:List Byte}{v:Value}{M R:List Blk}(hB:B≤w0.heap.size)(hm:Own w0 w (M++R))(hs:SlO M 5 1 v n (X.map v8)):OwnL B n X v w:=
 ⟨M,hs,fun b hb=>⟨Nat.le_trans hB (hm.2.2 b (by simp [hb])).1,hm.rows b (by simp [hb])⟩⟩
theorem Own.pushM {w0 w1 w:World}{L M:List Blk}{e:TypeId}{sz n:Nat}{v:Value}{cs:List Value}(h:Own w0 w1 L)(hx:Ext w1 w)(hs:SlO M e sz v n cs)(hM:∀b∈M,w1.heap.size≤b.g∧Row w b.g b.t b.cs):Own w0 w (M++L):=by
 rcases hs.2 with ⟨_,_,rfl⟩|⟨g,o,cap,cur,_,rfl,_⟩
 · exact h.ext hx
 · exact h.push hx (hM ⟨g,e,cur⟩ (List.mem_singleton_self _)).1 (hM ⟨g,e,cur⟩ (List.mem_singleton_self _)).2
theorem bs_run3h(a b c:List Byte)(ha:a.length=16)(hb:b.length=16)(hc:c.length=16)(w:World):(Instr.buildSlice 142 3 #[(0,A8 a),(1,A8 b),(2,A8 c)]).run Tryz.prog w= .ok (.slice (some ⟨w.heap.size,0,none⟩) 3 3) (w.alloc (.cells (catV [a,b,c]).toArray 68)):=by
 obtain⟨a0,a1,a2,a3,a4,a5,a6,a7,a8,a9,a10,a11,a12,a13,a14,a15,rfl⟩:=len16 a ha
 obtain⟨b0,b1,b2,b3,b4,b5,b6,b7,b8,b9,b10,b11,b12,b13,b14,b15,rfl⟩:=len16 b hb
 obtain⟨c0,c1,c2,c3,c4,c5,c6,c7,c8,c9,c10,c11,c12,c13,c14,c15,rfl⟩:=len16 c hc
 kernel_rfl
theorem gq_bs3h {P:Program}{dst:Option Tmp}{ty:TypeId}{pos:String}{aft:Array Edge}{gd:Option (Nat×Bool)}{a:Act}{w:World}{T e:TypeId}{u0 u1 u2:Value}{x0 x1 x2:Operand}{ks:List (List Byte)}(hk:∀k∈ks,k.length=16)(hb:(Instr.buildSlice T 3 #[(0,u0),(1,u1),(2,u2)]).run P w= .ok (.slice (some ⟨w.heap.size,0,none⟩) ks.length ks.length) (w.alloc (.cells (catV ks).toArray e)))(hx0:a.eval x0=u0)(hx1:a.eval x1=u1)(hx2:a.eval x2=u2):gives P w (KeysS ks) ((execOp a.eval (Oper.mk dst (.buildSlice T 3 #[(0,x0),(1,x1),(2,x2)]) ty pos aft gd)).run P w):=by
 unfold execOp
 simp [hx0,hx1,hx2,hb]
 exact gives_val (Ext.alloc (Ext.refl _) _) (keys_new w e ks hk)
def p3L(a b c:List Byte):List Byte:=plusL (zer 16) [a,b,c]
theorem p3L_length(a b c:List Byte):(p3L a b c).length=16:=plusL_length _ _ zer_length
def hcOne(h t m:List Byte):List Byte:=bothL (m.take 16) (vhL h t (m.drop 16))
def hcBulk(k0:List Byte)(ks:List (List Byte))(kl h l:List Byte)(bt:List Byte→List Byte)(t m:List Byte):List Byte:=xcL k0 ks kl (p3L (hcOne h t m) (bt (hcOne h t m)) l) (m.drop 16)
def hcDo(k0:List Byte)(ks:List (List Byte))(kl h l:List Byte)(bt:List Byte→List Byte)(t m:List Byte):List Byte:=bothL (bt (hcOne h t m)) (vhL h t (hcBulk k0 ks kl h l bt t m))++hcBulk k0 ks kl h l bt t m
theorem hcOne_length(h t m:List Byte):(hcOne h t m).length=16:=bothL_length _ _
theorem hcBulk_length(k0:List Byte)(ks:List (List Byte))(kl h l:List Byte)(bt:List Byte→List Byte)(t m:List Byte):(hcBulk k0 ks kl h l bt t m).length=m.length-16:=by rw [hcBulk,xcL_length,List.length_drop]
theorem hdoes_gen(FV:FuncId)(hFV:∀args w,(callFunc FV args).run Tryz.prog w= .ok (.enter FV args) w)(g gc n:Nat)(k0 kl h l t m:List Byte)(ks:List (List Byte))(bt:List Byte→List Byte)(hbt:∀x,(bt x).length=16)(ht:t.length≤500)(hl:m.length=n+16)(hn:n<400)(p q:Option Addr)(c d:Nat)(hc:t.length≤c)(hd:n+16≤d)(w0:World)(hh:HcR w0 g k0 ks kl h l)(hr:RdB w0 p t)(hq:RdB w0 q m)
   (BT:∀wx,Ext w0 wx→∀b,b.length=16→Gives Tryz.prog FV #[A8 b, .pointer (some ⟨gc,0,none⟩)] wx (A8 (bt b))):
   Calls Tryz.prog 158 #[.pointer (some ⟨g,0,none⟩), .slice p t.length c, .slice q (n+16) d, .func (.func FV) #[] #[.pointer (some ⟨gc,0,none⟩)]] w0 fun e w'=>∃v M R,e= .returned (.tuple #[v, .int .i64 0])∧Own w0 w' (M++R)∧SlO M 5 1 v (n+16) ((hcDo k0 ks kl h l bt t m).map v8):=by
 have hm:=Own.start w0
 obtain⟨gk,h1,h2,h3,h4⟩:=hh
 have HR:=Lib.hid fun w (hx:Ext w0 w)=>row_ext h1 hx
 have EK:Hid ((hcC gk h l)[0]? =some (.pointer (some ⟨gk,0,none⟩))):=Lib.hid rfl
 have EH:=Lib.hid (hcC_h gk h l h3)
 have EL:=Lib.hid (hcC_l gk h l h3 h4)
 obtain⟨f1,f2,f3⟩:=fl_16_at n hn
 have cv:=conv_if f2.of
 have lLf:(m.take 16).length=16:=by rw [List.length_take];omega
 have lBk:(m.drop 16).length=n:=by rw [List.length_drop];omega
 have O1:=Lib.hid fun w (hx:Ext w0 w)=>(show Calls Tryz.prog 124 #[.slice q (n+16) d, .complex .f64 0 4625196817309499392] w fun e w'=>∃v M,e= .returned (.tuple #[v, .bool true])∧Own w w' (M++[])∧SlO M 5 1 v 16 ((m.take 16).map v8)from by
   have:=of_own m q d 0 0 4625196817309499392 16 (flv (n+16)) (by rw [hl];exact f1) (by rw [hl];exact f3) (by omega) (by omega) (by omega) w (hq.ext hx)
   rwa [hl,List.drop_zero]at this)
 have O2:=Lib.hid fun w (hx:Ext w0 w)=>(show Calls Tryz.prog 124 #[.slice q (n+16) d, .complex .f64 4625196817309499392 (flv n)] w fun e w'=>∃v M,e= .returned (.tuple #[v, .bool true])∧Own w w' (M++[])∧SlO M 5 1 v n ((m.drop 16).map v8)from by
   have:=of_own m q d 4625196817309499392 16 (flv n) n (flv (n+16)) (by rw [hl];exact f3) (by rw [hl];exact f2) (by omega) (by omega) (by omega) w (hq.ext hx)
   rw [List.take_of_length_le (l:=m.drop 16) (by omega)]at this
   rwa [hl]at this)
 obtain⟨Lf,hLf⟩:∃x,x=m.take 16:=⟨_,rfl⟩
 obtain⟨Bk,hBk⟩:∃x,x=m.drop 16:=⟨_,rfl⟩
 obtain⟨One,hOne⟩:∃x,x=hcOne h t m:=⟨_,rfl⟩
 obtain⟨V1,hV1⟩:∃x,x=vhL h t Bk:=⟨_,rfl⟩
 have eOne:bothL Lf V1=One:=by rw [hOne,hV1,hLf,hBk];rfl
 obtain⟨Two,hTwo⟩:∃x,x=bt One:=⟨_,rfl⟩
 obtain⟨Thr,hThr⟩:∃x,x=p3L One Two l:=⟨_,rfl⟩
 obtain⟨B2,hB2⟩:∃x,x=hcBulk k0 ks kl h l bt t m:=⟨_,rfl⟩
 have eB2:xcL k0 ks kl Thr Bk=B2:=by rw [hB2,hThr,hTwo,hOne,hBk];rfl
 obtain⟨V2,hV2⟩:∃x,x=vhL h t B2:=⟨_,rfl⟩
 obtain⟨Fst,hFst⟩:∃x,x=bothL Two V2:=⟨_,rfl⟩
 obtain⟨OUT,hOUT⟩:∃x,x=hcDo k0 ks kl h l bt t m:=⟨_,rfl⟩
 have eO:Fst++B2=OUT:=by rw [hOUT,hFst,hV2,hB2,hTwo,hOne];rfl
 have lV1:V1.length=16:=by rw [hV1];exact vhL_length _ _ _
 have lOne:One.length=16:=by rw [hOne];exact hcOne_length _ _ _
 have lTwo:Two.length=16:=by rw [hTwo];exact hbt _
 have lThr:Thr.length=16:=by rw [hThr];exact p3L_length _ _ _
 have lB2:B2.length=n:=by rw [hB2,hcBulk_length];omega
 have lV2:V2.length=16:=by rw [hV2];exact vhL_length _ _ _
 have lFst:Fst.length=16:=by rw [hFst];exact bothL_length _ _
 rw [←hLf]at O1 lLf
 rw [←hBk]at O2 lBk
 have BL:=Lib.hid fun (w:World)(p:Option Addr)(c:Nat)(hr:RdB w p Lf)=>(show Gives Tryz.prog 54 #[.slice p 16 c] w (A8 Lf)from by
   have:=oblock_any Lf p c w hr;rwa [lLf,blk_self Lf lLf]at this)
 have H1:=Lib.hid fun (w:World)(hx:Ext w0 w)(q2:Option Addr)(d2:Nat)(hd2:n≤d2)(hq2:RdB w q2 Bk)=>(show Gives Tryz.prog 162 #[A8 h, .slice p t.length c, .slice q2 n d2] w (A8 V1)from by
   have:=vhash_any h t Bk h3 ht (by omega) p q2 c d2 hc (by omega) w (hr.ext hx) hq2
   rwa [lBk,←hV1]at this)
 have H2:=Lib.hid fun (w:World)(hx:Ext w0 w)(q2:Option Addr)(d2:Nat)(hd2:n≤d2)(hq2:RdB w q2 B2)=>(show Gives Tryz.prog 162 #[A8 h, .slice p t.length c, .slice q2 n d2] w (A8 V2)from by
   have:=vhash_any h t B2 h3 ht (by omega) p q2 c d2 hc (by omega) w (hr.ext hx) hq2
   rwa [lB2,←hV2]at this)
 have P1:=Lib.hid fun (w:World)(p:Option Addr)(c:Nat)(hc:[Lf,V1].length≤c)(hk:RdK w p 16 [Lf,V1])=>(show Gives Tryz.prog 161 #[.slice p 2 c] w (A8 One)from by rw [←eOne];exact hcplus_two Lf V1 lLf lV1 p c w hk hc)
 have P2:=Lib.hid fun (w:World)(p:Option Addr)(c:Nat)(hc:[One,Two,l].length≤c)(hk:RdK w p 16 [One,Two,l])=>(show Gives Tryz.prog 161 #[.slice p 3 c] w (A8 Thr)from by rw [hThr];exact hcplus_any [One,Two,l] p c w hk hc (by simp))
 have P3:=Lib.hid fun (w:World)(p:Option Addr)(c:Nat)(hc:[Two,V2].length≤c)(hk:RdK w p 16 [Two,V2])=>(show Gives Tryz.prog 161 #[.slice p 2 c] w (A8 Fst)from by rw [hFst];exact hcplus_two Two V2 lTwo lV2 p c w hk hc)
 have BTW:=Lib.hid fun w (hx:Ext w0 w)=>(show Gives Tryz.prog FV #[A8 One, .pointer (some ⟨gc,0,none⟩)] w (A8 Two)from by rw [hTwo];exact BT w hx One lOne)
 have XC:=Lib.hid fun (w wx:World)(hx0:Ext w0 wx)(hx:Ext w wx)(q2:Option Addr)(d2:Nat)(hd2:n≤d2)(hq2:RdB wx q2 Bk)=>(show GivesR Tryz.prog 163 #[.pointer (some ⟨gk,0,none⟩),A8 Thr, .slice q2 n d2] wx (OwnT w.heap.size n B2)from by
   have h0:=xcryptO gk k0 kl ks Thr Bk lThr (by omega) q2 d2 wx (h2.ext hx0) hq2 (by omega)
   rw [eB2,lBk]at h0
   refine Calls.mono h0 ?_
   rintro e w' ⟨v,M,R,rfl,hm1,hs⟩
   exact⟨_,rfl,⟨v,rfl,ownL_of hx.size hm1 hs⟩,hm1.x⟩)
 have K1:=Lib.hid (bs_run2 Lf V1 lLf lV1)
 have K2:=Lib.hid (bs_run3h One Two l lOne lTwo h4)
 have K3:=Lib.hid (bs_run2 Two V2 lTwo lV2)
 have k1:Hid (∀k∈[Lf,V1],k.length=16):=Lib.hid (by intro k hk;simp at hk;rcases hk with rfl|rfl<;>assumption)
 have k2:Hid (∀k∈[One,Two,l],k.length=16):=Lib.hid (by intro k hk;simp at hk;rcases hk with rfl|rfl|rfl<;>assumption)
 have k3:Hid (∀k∈[Two,V2],k.length=16):=Lib.hid (by intro k hk;simp at hk;rcases hk with rfl|rfl<;>assumption)
 have lF:[Fst,B2].flatten.length=n+16:=by simp [lFst,lB2];omega
 have eF:[Fst,B2].flatten=OUT:=by simp [eO]
 have CC:=Lib.hid fun (w:World)(p:Option Addr)(h:RdR w p [Fst,B2])=>(show Calls Tryz.prog 128 #[.slice p 2 2] w fun e w'=>∃v M,e= .returned v∧Own w w' (M++[])∧SlO M 5 1 v (n+16) (OUT.map v8)from by
   have:=concat_any [Fst,B2] p 2 w h (by simp) (by rw [lF];omega)
   rwa [lF,eF]at this)
 have RR:=Lib.hid fun (g g2:Nat)(ty:TypeId)(q2:Option Addr)(d2:Nat)(w:World)(hd2:n≤d2)(h:Row w g ty [.slice (some ⟨g2,0,none⟩) 16 16, .slice q2 n d2])(ha:RdB w (some ⟨g2,0,none⟩) Fst)(hb:RdB w q2 B2)=>(rdR2 (a:=Fst) (b:=B2) (by rw [lFst,lB2];exact h) ha hb (by omega) (by omega) (by unfold maxLen;omega) (by unfold maxLen;omega))
 have HH:=Lib.hid h3
 have HLn:=Lib.hid h4
 have y1:=Nat.le_of_eq lOne
 have y2:=Nat.le_of_eq lOne.symm
 have y3:=Nat.le_of_eq lTwo
 have y4:=Nat.le_of_eq lTwo.symm
 have y5:=Nat.le_of_eq lFst
 have y6:=Nat.le_of_eq lFst.symm
 have d1:decide ((n:Int)+16<16)=false:=decide_eq_false (by omega)
 have d2:¬(n:Int)+16<16:=by omega
 obtain⟨PC,hPC⟩:∃x,x=hcC gk h l:=⟨_,rfl⟩
 rw [←hPC]at HR EK EH EL
 obtain⟨TL,hTL⟩:∃x,x=t.length:=⟨_,rfl⟩
 rw [←hTL]at H1 H2⊢
 rw [←hOUT]
 obtain⟨FN,hFN⟩:∃x,x=flv n:=⟨_,rfl⟩
 rw [←hFN]at cv O2
 clear h1 h2 h3 h4 f1 f2 f3 hr hq ht hl hc hTL hPC hLf hBk hOne hV1 eOne hTwo hThr hB2 eB2 hV2 hFst hOUT eO hFN BT lV1 lOne lTwo lThr lB2 lV2 lFst lF eF lLf lBk hbt
 go_enter Tryz.func158,Tryz.ntmps158
 go_wp2_with (first|(go_at_call 124;(with_reducible refine(O1.out _ hm.x).mono ?_);rintro e_ w ⟨v1,M1,rfl,hm1,hs1⟩;rw [List.append_nil]at hm1;replace hm:=hm.join hm1;obtain⟨p1,c1,rfl⟩:=hs1.form;clear hm1)|(go_at_call 124;(with_reducible refine(O2.out _ hm.x).mono ?_);rintro e_ w ⟨v2,M2,rfl,hm1,hs2⟩;rw [List.append_nil]at hm1;replace hm:=hm.join hm1;obtain⟨p2,c2,rfl⟩:=hs2.form;clear hm1))
 rw [List.append_nil]at hm
 have RL:=Lib.hid fun wx L (h:Own w0 wx (L++(M2++M1)))=>(slo_rdZ hs1 (R:=[]) (by rw [List.append_nil];exact h.dropN.dropN):RdB wx p1 Lf)
 have RB:=Lib.hid fun wx L (h:Own w0 wx (L++(M2++M1)))=>(slo_rdZ hs2 h.dropN:RdB wx p2 Bk)
 have c2n:n≤c2:=by
   obtain⟨_,_,hv,h1,_⟩:=hs2.cells hm
   cases hv
   exact h1
 clear hs1 hs2
 have hx0:=hm.x
 have hmA:=hm
 have a1:=fun wx (hwx:Ext w wx)=>BL.out wx p1 c1 (RL.out wx [] (hmA.ext hwx))
 have a2:=fun wx (hwx:Ext w wx)=>H1.out wx (hx0.trans hwx) p2 c2 c2n (RB.out wx [] (hmA.ext hwx))
 have R7:=Lib.hid fun wx (hwx:Ext w wx)=>HR.out wx (hx0.trans hwx)
 refine region_new 12 (fun w'=>Ext _ w') 84 (by kernel_rfl) (by kernel_rfl) rfl (fun _ _ h k=>h.trans k) (drew_ext _) ?_
 simp only [tSC,List.take_zero,dSC,List.drop_zero,List.map_cons,List.map_nil]
 repeat (first
     | (apply walk_some (NewS (w.heap.size) 68 ((zer 16).map v8)) 14 (NewS.stable _ _ _) rfl rfl rfl rfl
        · (intro wx hwx;go_simp;exact gives_new (cs:=(zer 16).map v8) hwx.size))
     |(apply walk_is rfl rfl rfl;(intro wx hwx;(with_reducible apply gq_rowN (R7.out wx hwx));infer_instance;exact rfl;exact EH.out;exact(by rw [List.length_map];exact HH.out));(simp only [Act.put,sIB,sCS,sCZ];rfl))
     |(apply walk_some (KeysS ([Lf,V1])) 48 (KeysS.stable _) rfl rfl rfl rfl;(intro wx hwx;exact gq_bs2 (k1.out) (K1.out wx) rfl rfl))
     | (apply walk_from (T:=[(48,KeysS [Lf,V1])]) rfl rfl
        · (intro wx hwx;simp only [withS];(rintro x_ ⟨p_,c_,rfl,hc_,hk_⟩);refine⟨rfl, ?_⟩;go_simp;with_reducible exact gives_call (P1.out wx p_ c_ hc_ hk_))
        · (simp only [Act.put,sIB,sCS,sCZ];rfl))
     | (apply walk_is rfl rfl rfl
        · (intro wx hwx;go_simp;(try go_bits);first|exact gives_same|exact gives_skip|with_reducible exact gives_call (a1 wx hwx)|with_reducible exact gives_call (a2 wx hwx))
        · (simp only [Act.put,sIB,sCS,sCZ];rfl))
     | (apply walk_not rfl rfl rfl
        · (simp only [Act.put,sIB,sCS,sCZ];rfl)))
 intro wz hwz
 simp only [zCC,zNR]
 repeat rw [fin_is]
 rw [fin_cons];intro y48 hy48
 repeat rw [fin_is]
 rw [fin_cons];intro x14 hx14
 repeat rw [fin_is]
 rw [fin_nil];intro hap
 simp only [Act.put,sIB,sCS,sCZ]at hap⊢
 clear hy48
 obtain⟨g14_,rfl,hg14,hr14⟩:=hx14
 replace hm:=hm.push hwz hg14 hr14
 clear hap hr14
 clear a1 a2 hmA hx0 R7
 go_wp2_with (first|((with_reducible show qLd);first|((with_reducible apply wq_ldW hm);exact rfl;infer_instance;exact rfl;(focus ((repeat (first|exact .hd|assumption|apply Has.tl|apply Has.app));done));(focus (first|rfl|omega|(simp;done)|(simp;omega)))))|((((with_reducible show qSt);first|((with_reducible apply wq_stW hm);exact rfl;infer_instance;exact rfl;exact rfl;(focus ((repeat (first|exact .hd|assumption|apply Swap.tl|apply Swap.app));done));(focus (first|rfl|omega|(simp;done)|(simp;omega)));(focus (first|rfl|omega|(simp;done)|(simp;omega)));(focus (first|exact one_map _|(simp [one8,one32,one64];done))))));clear hm;intro w hm))
 refine(BTW.out _ hm.x).mono ?_
 rintro e_ w ⟨rfl,hx_⟩
 replace hm:=hm.ext hx_
 clear hx_
 go_wp2_with (first|((((with_reducible show qSt);first|((with_reducible apply wq_stW hm);exact rfl;infer_instance;exact rfl;exact rfl;(focus ((repeat (first|exact .hd|assumption|apply Swap.tl|apply Swap.app));done));(focus (first|rfl|omega|(simp;done)|(simp;omega)));(focus (first|rfl|omega|(simp;done)|(simp;omega)));(focus (first|exact one_map _|(simp [one8,one32,one64];done))))));clear hm;intro w hm)|((first|((with_reducible show qAl);first|((with_reducible apply wq_new hm);exact rfl;infer_instance)));clear hm;(first|(have hx_:=g1;clear hx_;(first|(have hx_:=g2;clear hx_;intro gx_)|intro g2))|intro g1);intro w hm))
 have hx0:=hm.x
 have hmA:=hm
 have a2:=fun wx (hwx:Ext w wx)=>XC.out w wx (hx0.trans hwx) hwx p2 c2 c2n (RB.out wx [_,_] (hmA.ext hwx))
 have R7:=Lib.hid fun wx (hwx:Ext w wx)=>HR.out wx (hx0.trans hwx)
 refine region_new 18 (fun w'=>Ext _ w') 84 (by kernel_rfl) (by kernel_rfl) rfl (fun _ _ h k=>h.trans k) (drew_ext _) ?_
 simp only [tSC,List.take_zero,dSC,List.drop_zero,List.map_cons,List.map_nil]
 repeat (first
     |(apply walk_is rfl rfl rfl;(intro wx hwx;(with_reducible apply gq_rowN (R7.out wx hwx));infer_instance;exact rfl;exact EL.out;exact(by rw [List.length_map];exact HLn.out));(simp only [Act.put,sIB,sCS,sCZ];rfl))
     | (apply walk_is rfl rfl rfl
        · (intro wx hwx;(with_reducible apply gq_row1 ((R7.out) wx hwx));infer_instance;exact rfl;(exact EK.out))
        · (simp only [Act.put,sIB,sCS,sCZ];rfl))
     |(apply walk_some (KeysS [One,Two,l]) 64 (KeysS.stable _) rfl rfl rfl rfl;(intro wx hwx;exact gq_bs3h k2.out (K2.out wx) rfl rfl rfl))
     | (apply walk_from (T:=[(64,KeysS [One,Two,l])]) rfl rfl
        · (intro wx hwx;simp only [withS];(rintro x_ ⟨p_,c_,rfl,hc_,hk_⟩);refine⟨rfl, ?_⟩;go_simp;with_reducible exact gives_call (P2.out wx p_ c_ hc_ hk_))
        · (simp only [Act.put,sIB,sCS,sCZ];rfl))
     | (apply walk_some (OwnT w.heap.size n B2) 67 (OwnT.stable _ _ _) rfl rfl rfl rfl
        · (intro wx hwx;go_simp;with_reducible exact gives_callR (a2 wx hwx)))
     | (apply walk_from_some (T:=[(67,OwnT w.heap.size n B2)]) (OwnT w.heap.size n B2) 53 (OwnT.stable _ _ _) rfl rfl rfl
        · (intro wx hwx;simp only [withS];(rintro x_ ⟨u_,rfl,h_⟩);refine⟨rfl, ?_⟩;go_simp;exact gives_val (Ext.refl _) ⟨u_,rfl,h_⟩))
     | (apply walk_from_some (T:=[(53,OwnT w.heap.size n B2)]) (OwnL w.heap.size n B2) 68 (OwnL.stable _ _ _) rfl rfl rfl
        · (intro wx hwx;simp only [withS];(rintro x_ ⟨u_,rfl,h_⟩);refine⟨rfl, ?_⟩;go_simp;exact gives_val (V:=OwnL w.heap.size n B2) (Ext.refl _) h_))
     | (apply walk_from (T:=[(53,OwnT w.heap.size n B2)]) rfl rfl
        · (intro wx hwx;simp only [withS];(rintro x_ ⟨u_,rfl,h_⟩);refine⟨rfl, ?_⟩;go_simp;exact gives_same)
        · (simp only [Act.put,sIB,sCS,sCZ];rfl))
     | (apply walk_from_some (T:=[(68,OwnL w.heap.size n B2)]) (OwnL w.heap.size n B2) 12 (OwnL.stable _ _ _) rfl rfl rfl
        · (intro wx hwx;simp only [withS];(intro x_ h_);refine⟨rfl, ?_⟩;go_simp;exact gives_val (V:=OwnL w.heap.size n B2) (Ext.refl _) h_))
     | (apply walk_is rfl rfl rfl
        · (intro wx hwx;first|((with_reducible show gives _ _ _ (Sem.run _ (execOp _ (Oper.mk _ (Op.load _ _) _ _ _ _)) _));first|((with_reducible apply gq_ldW (hm.ext hwx));infer_instance;exact rfl;(focus ((repeat (first|exact .hd|assumption|apply Has.tl|apply Has.app));done));(focus (first|rfl|omega|(simp;done)|(simp;omega)))))|(go_simp;(try go_bits);first|exact gives_same|exact gives_skip))
        · (simp only [Act.put,sIB,sCS,sCZ];rfl))
     | (apply walk_not rfl rfl rfl
        · (simp only [Act.put,sIB,sCS,sCZ];rfl)))
 intro wz hwz
 simp only [zCC,zNR]
 repeat rw [fin_is]
 rw [fin_cons];intro x64 hx64
 repeat rw [fin_is]
 rw [fin_cons];intro x67 hx67
 repeat rw [fin_is]
 rw [fin_cons];intro x53 hx53
 repeat rw [fin_is]
 rw [fin_cons];intro x68 hx68
 repeat rw [fin_is]
 rw [fin_cons];intro x12 hx12
 repeat rw [fin_is]
 rw [fin_nil];intro hap
 simp only [Act.put,sIB,sCS,sCZ]at hap⊢
 obtain⟨M3,hs3,hM3⟩:=hx12
 clear hm hx64 hx67 hx53 hx68 a2 hap
 have hm:=hmA.pushM hwz hs3 hM3
 obtain⟨p3,c3,rfl⟩:=hs3.form
 clear hmA hx0 R7 hM3 hwz
 obtain⟨w,rfl⟩:∃w_,w_=wz:=⟨_,rfl⟩
 have RB3:=Lib.hid fun wx L (h:Own w0 wx (L++(M3++(⟨g1,68,Two.map v8⟩::⟨g14_,68,One.map v8⟩::(M2++M1)))))=>(slo_rdZ hs3 h.dropN:RdB wx p3 B2)
 have c3n:n≤c3:=by
   obtain⟨_,_,hv,h1,_⟩:=hs3.cells hm
   cases hv
   exact h1
 clear hs3
 go_wp2_with fail
 have hx0:=hm.x
 have hmA:=hm
 have a2:=fun wx (hwx:Ext w wx)=>H2.out wx (hx0.trans hwx) p3 c3 c3n (RB3.out wx [] (hmA.ext hwx))
 have R7:=Lib.hid fun wx (hwx:Ext w wx)=>HR.out wx (hx0.trans hwx)
 refine region_new 11 (fun w'=>Ext _ w') 84 (by kernel_rfl) (by kernel_rfl) rfl (fun _ _ h k=>h.trans k) (drew_ext _) ?_
 simp only [tSC,List.take_zero,dSC,List.drop_zero,List.map_cons,List.map_nil]
 repeat (first
     | (apply walk_some (NewS (w.heap.size) 68 ((zer 16).map v8)) 16 (NewS.stable _ _ _) rfl rfl rfl rfl
        · (intro wx hwx;go_simp;exact gives_new (cs:=(zer 16).map v8) hwx.size))
     |(apply walk_is rfl rfl rfl;(intro wx hwx;(with_reducible apply gq_rowN (R7.out wx hwx));infer_instance;exact rfl;exact EH.out;exact(by rw [List.length_map];exact HH.out));(simp only [Act.put,sIB,sCS,sCZ];rfl))
     |(apply walk_some (KeysS ([Two,V2])) 78 (KeysS.stable _) rfl rfl rfl rfl;(intro wx hwx;exact gq_bs2 (k3.out) (K3.out wx) rfl rfl))
     | (apply walk_from (T:=[(78,KeysS [Two,V2])]) rfl rfl
        · (intro wx hwx;simp only [withS];(rintro x_ ⟨p_,c_,rfl,hc_,hk_⟩);refine⟨rfl, ?_⟩;go_simp;with_reducible exact gives_call (P3.out wx p_ c_ hc_ hk_))
        · (simp only [Act.put,sIB,sCS,sCZ];rfl))
     | (apply walk_is rfl rfl rfl
        · (intro wx hwx;first|((with_reducible show gives _ _ _ (Sem.run _ (execOp _ (Oper.mk _ (Op.load _ _) _ _ _ _)) _));first|((with_reducible apply gq_ldW (hm.ext hwx));infer_instance;exact rfl;(focus ((repeat (first|exact .hd|assumption|apply Has.tl|apply Has.app));done));(focus (first|rfl|omega|(simp;done)|(simp;omega)))))|(go_simp;(try go_bits);first|exact gives_same|exact gives_skip|with_reducible exact gives_call (a2 wx hwx)))
        · (simp only [Act.put,sIB,sCS,sCZ];rfl))
     | (apply walk_not rfl rfl rfl
        · (simp only [Act.put,sIB,sCS,sCZ];rfl)))
 intro wz hwz
 simp only [zCC,zNR]
 repeat rw [fin_is]
 rw [fin_cons];intro y78 hy78
 repeat rw [fin_is]
 rw [fin_cons];intro x16 hx16
 repeat rw [fin_is]
 rw [fin_nil];intro hap
 simp only [Act.put,sIB,sCS,sCZ]at hap⊢
 clear hy78
 obtain⟨g16_,rfl,hg16,hr16⟩:=hx16
 replace hm:=hm.push hwz hg16 hr16
 clear hap hr16
 clear a2 hmA hx0 R7
 have BS:=Lib.hid fun g=>bs_s2 (some ⟨g,0,none⟩) p3 16 16 n c3
 go_wp2_with (first|((with_reducible apply wq_bs2g (BS.out _) hm);exact rfl;exact rfl;exact rfl;clear hm;intro gb w hm)|((((with_reducible show qSt);first|((with_reducible apply wq_stW hm);exact rfl;infer_instance;exact rfl;exact rfl;(focus ((repeat (first|exact .hd|assumption|apply Swap.tl|apply Swap.app));done));(focus (first|rfl|omega|(simp;done)|(simp;omega)));(focus (first|rfl|omega|(simp;done)|(simp;omega)));(focus (first|exact one_map _|(simp [one8,one32,one64];done))))));clear hm;intro w hm))
 refine(CC.out w _ (RR.out gb g16_ _ p3 c3 w c3n (hm.row .hd) (hm.rdB (g:=g16_) (l:=Fst) (.tl .hd)) (RB3.out w [_,_] hm))).mono ?_
 rintro e_ w ⟨v5,M5,rfl,hm1,hs5⟩
 rw [List.append_nil]at hm1
 replace hm:=hm.join hm1
 clear hm1
 go_wp2_with fail
 go_ret2
 exact⟨_,M5,_,rfl,hm,hs5⟩
theorem henc1_any(g gc:Nat)(k0 kl h l b:List Byte)(ks:List (List Byte))(hb:b.length=16)(w0:World)(hh:HcR w0 g k0 ks kl h l)(hc:Row w0 gc 99 [.pointer (some ⟨g,0,none⟩)]):Gives Tryz.prog 160 #[A8 b, .pointer (some ⟨gc,0,none⟩)] w0 (A8 (aesE k0 ks kl b)):=by
 unfold Gives
 have hm:=Own.start w0
 obtain⟨gk,h1,h2,_,_⟩:=hh
 have HR:=Lib.hid fun w (hx:Ext w0 w)=>row_ext h1 hx
 have HC:=Lib.hid fun w (hx:Ext w0 w)=>row_ext hc hx
 have EN:=Lib.hid fun w (hx:Ext w0 w)=>encrypt_any gk k0 kl ks b hb w (h2.ext hx)
 have lE:=aesE_length k0 ks kl b
 generalize aesE k0 ks kl b=E at*
 have EK:Hid ((hcC gk h l)[0]? =some (.pointer (some ⟨gk,0,none⟩))):=Lib.hid rfl
 obtain⟨PC,hPC⟩:∃x,x=hcC gk h l:=⟨_,rfl⟩
 rw [←hPC]at HR EK
 have h3:=Nat.le_of_eq hb
 have h4:=Nat.le_of_eq hb.symm
 have h5:=Nat.le_of_eq lE
 have h6:=Nat.le_of_eq lE.symm
 clear h1 h2 hc hPC hb
 go_enter Tryz.func160,Tryz.ntmps160
 go_wp2_with (first|((first|((with_reducible show qAl);first|((with_reducible apply wq_new hm);exact rfl;infer_instance))|((with_reducible show qBx);first|((with_reducible apply wq_boxN hm);exact rfl;exact rfl)));clear hm;intro gx_;intro w hm))
 have hx0:=hm.x
 have a1:=fun wx (hwx:Ext w wx)=>EN.out wx (hx0.trans hwx)
 have R1:=Lib.hid fun wx (hwx:Ext w wx)=>HR.out wx (hx0.trans hwx)
 have R2:=Lib.hid fun wx (hwx:Ext w wx)=>HC.out wx (hx0.trans hwx)
 refine region_at 6 (fun w'=>Ext _ w') 10 (by kernel_rfl) (by kernel_rfl) rfl (fun _ _ h k=>h.trans k) (drew_ext _) ?_
 simp only [tSC,List.take_zero,dSC,List.drop_zero,List.map_cons,List.map_nil]
 repeat (first
     | (apply walk_is rfl rfl rfl
        · (intro wx hwx;(with_reducible apply gq_row1 ((R2.out) wx hwx));infer_instance;exact rfl;exact rfl)
        · (simp only [Act.put,sIB,sCS,sCZ];rfl))
     | (apply walk_is rfl rfl rfl
        · (intro wx hwx;(with_reducible apply gq_row1 ((R1.out) wx hwx));infer_instance;exact rfl;(exact EK.out))
        · (simp only [Act.put,sIB,sCS,sCZ];rfl))
     | (apply walk_is rfl rfl rfl
        · (intro wx hwx;first|((with_reducible show gives _ _ _ (Sem.run _ (execOp _ (Oper.mk _ (Op.load _ _) _ _ _ _)) _));first|((with_reducible apply gq_ldW (hm.ext hwx));infer_instance;exact rfl;(focus (repeat first|exact .hd|assumption|apply Has.tl);done);(focus (first|rfl|omega|(simp;done)|(simp;omega)))))|(go_simp;(try go_bits);first|exact gives_same|exact gives_skip|with_reducible exact gives_call (a1 wx hwx)))
        · (simp only [Act.put,sIB,sCS,sCZ];rfl))
     | (apply walk_not rfl rfl rfl
        · (simp only [Act.put,sIB,sCS,sCZ];rfl)))
 intro wz hwz
 simp only [zCC,zNR]
 repeat (first|rw [fin_is]|(rw [fin_cons];intro _ _))
 rw [fin_nil]
 try (replace hm:=hm.ext hwz)
 simp only [Act.put,sIB,sCS,sCZ]
 clear a1 hx0
 go_wp2_with (first|((((with_reducible show qSt);first|((with_reducible apply wq_stW hm);exact rfl;infer_instance;exact rfl;exact rfl;(focus (repeat first|exact .hd|assumption|apply Swap.tl);done);(focus (first|rfl|omega|(simp;done)|(simp;omega)));(focus (first|rfl|omega|(simp;done)|(simp;omega)));(focus (first|exact one_map _|(simp [one8,one32,one64];done))))));clear hm;intro w hm))
 refine rtO hm rfl rfl (hR:=⟨rfl,hm.x⟩)
theorem henc_any(g n:Nat)(k0 kl h l t m:List Byte)(ks:List (List Byte))(ht:t.length≤500)(hl:m.length=n+16)(hn:n<400)(p q:Option Addr)(c d:Nat)(hc:t.length≤c)(hd:n+16≤d)(w0:World)(hh:HcR w0 g k0 ks kl h l)(hr:RdB w0 p t)(hq:RdB w0 q m):
   Calls Tryz.prog 156 #[.pointer (some ⟨g,0,none⟩), .slice p t.length c, .slice q (n+16) d] w0 fun e w'=>∃v M R,e= .returned (.tuple #[v, .int .i64 0])∧Own w0 w' (M++R)∧SlO M 5 1 v (n+16) ((hcDo k0 ks kl h l (aesE k0 ks kl) t m).map v8):=by
 have hm:=Own.start w0
 have DO:=Lib.hid fun (gc:Nat)(w:World)(hx:Ext w0 w)(hc1:Row w gc 99 [.pointer (some ⟨g,0,none⟩)])=>hdoes_gen 160 (fun args w=>by kernel_rfl) g gc n k0 kl h l t m ks (aesE k0 ks kl) (fun x=>aesE_length _ _ _ _) ht hl hn p q c d hc hd w (hh.ext hx) (hr.ext hx) (hq.ext hx) (fun wx hwx b hb=>henc1_any g gc k0 kl h l b ks hb wx ((hh.ext hx).ext hwx) (row_ext hc1 hwx))
 generalize hcDo k0 ks kl h l (aesE k0 ks kl) t m=OUT at*
 obtain⟨TL,hTL⟩:∃x,x=t.length:=⟨_,rfl⟩
 rw [←hTL]at DO⊢
 clear hr hq hh hl ht hc hTL
 go_enter Tryz.func156,Tryz.ntmps156
 go_wp2_with (first|((with_reducible apply wq_box1 (v:= .pointer (some ⟨g,0,none⟩)) hm);exact rfl;exact rfl;exact rfl;clear hm;intro g1 w hm)|((with_reducible show qLd);first|((with_reducible apply wq_ld1 hm);exact rfl;infer_instance;exact rfl;(focus (repeat first|exact .hd|assumption|apply Has.tl);done);exact rfl)))
 refine(DO.out g1 w hm.x (hm.row .hd)).mono ?_
 rintro e_ w ⟨v5,M5,R5,rfl,hm1,hs5⟩
 replace hm:=hm1.rebase hm.x
 clear hm1
 go_wp2_with fail
 go_ret2
 exact⟨_,M5,_,rfl,hm,hs5⟩
theorem zer_bothL(x:List Byte)(h:x.length=16):bothL (zer 16) x=x:=nth_ext (by rw [bothL_length,h]) fun i hi=>by
 rw [bothL_length]at hi
 rw [bothL_nth _ _ _ hi,zer,nth_tab hi];simp
theorem tplus_any(ks:List (List Byte))(p:Option Addr)(c:Nat)(w0:World)(hk:RdK w0 p 16 ks)(hc:ks.length≤c)(hcm:ks.length≤70368744177664):Gives Tryz.prog 201 #[.slice p ks.length c] w0 (A8 (plusL (zer 16) ks)):=by
 unfold Gives
 have hm:=Own.start w0
 have HK:=Lib.hid hk
 have HZ:=Lib.hid (show(zer (n:=8) 16).length=16 from zer_length)
 clear hk
 go_enter Tryz.func201,Tryz.ntmps201
 go_wp2_with (first|((first|((with_reducible show qAl);first|((with_reducible apply wq_new hm);exact rfl;infer_instance)));clear hm;(first|(have hx_:=g1;clear hx_;(first|(have hx_:=g2;clear hx_;(first|(have hx_:=g3;clear hx_;intro gx_)|intro g3))|intro g2))|intro g1);intro w hm))
 go_loopw [9] (fun i wr=>∃k:Nat,k≤ks.length∧i= .int .i64 k∧Own w0 wr [⟨g2,68,(plusL (zer 16) (ks.take k)).map v8⟩,⟨g1,68,(zer 16).map v8⟩]) (fun i _=>ks.length-(intOf i).toNat)
 case atStart=>exact⟨0,by omega,rfl,hm⟩
 case round =>
   obtain⟨k,hk,rfl,hm⟩:=hrel
   have hB:=plusL_length (ks.take k) (zer 16) HZ.out
   by_cases hlt:k<ks.length
   · have hd : decide ((k:Int)<(ks.length:Int))=true:=decide_eq_true (by omega)
     have hd2:(k:Int)<(ks.length:Int):=by omega
     obtain⟨a,rfl⟩:=HK.out.addr (by omega) (by omega)
     obtain⟨hK,hKl⟩:=HK.out.at (by omega) k hlt
     have hS:=plusL_take (zer 16) ks k hlt
     simp only [Option.getD_some]at hK
     generalize plusL (zer 16) (ks.take k)=B at*
     generalize ks.getD k []=K at*
     have HS:=Lib.hid hS
     have HK2:=Lib.hid hK
     have ES:Hid (B=part 16 0 (fun i=>nth B i^^^nth K i) (nth B)):=Lib.hid (part_start hB)
     have EE:Hid (part 16 16 (fun i=>nth B i^^^nth K i) (nth B)=bothL B K):=Lib.hid part_all
     have hK1:=Nat.le_of_eq hKl
     have hK2':=Nat.le_of_eq hKl.symm
     clear hK hS
     go_wp2_with (first|((with_reducible apply wq_rdW (HK2.out.ext hm.x));exact rfl;infer_instance;exact rfl;exact hKl)|((((with_reducible show qSt);first|((with_reducible apply wq_stW hm);exact rfl;infer_instance;exact rfl;exact rfl;(focus (repeat first|exact .hd|assumption|apply Swap.tl);done);(focus (first|rfl|omega|(simp;done)|(simp;omega)));(focus (first|rfl|omega|(simp;done)|(simp;omega)));(focus (first|exact one_map _|(simp [one8,one32,one64];done))))));clear hm;intro w hm)|((first|((with_reducible show qAl);first|((with_reducible apply wq_new hm);exact rfl;infer_instance)));clear hm;(first|(have hx_:=g1;clear hx_;(first|(have hx_:=g2;clear hx_;(first|(have hx_:=g3;clear hx_;intro gx_)|intro g3))|intro g2))|intro g1);intro w hm))
     rw [ES.out]at hm
     go_loopw [13] (fun i wr=>∃j:Nat,j≤16∧i= .int .i64 j∧Own w0 wr [⟨g3,68,K.map v8⟩,⟨g2,68,(part 16 j (fun i=>nth B i^^^nth K i) (nth B)).map v8⟩,⟨g1,68,(zer 16).map v8⟩]) (fun i _=>16-(intOf i).toNat)
     case atStart=>exact⟨0,by omega,rfl,hm⟩
     case round =>
       obtain⟨j,hj,rfl,hm⟩:=hrel
       by_cases hjl:j<16
       · have hj1:decide ((j:Int)<16)=true:=decide_eq_true (by omega)
         have hj2:(j:Int)<16:=by omega
         have EJ:Hid (setN (part 16 j (fun i=>nth B i^^^nth K i) (nth B)) j (nth (part 16 j (fun i=>nth B i^^^nth K i) (nth B)) j^^^nth K j)=part 16 (j+1) (fun i=>nth B i^^^nth K i) (nth B)):=Lib.hid (by
           rw [nth_part_ge hjl (Nat.le_refl _)];exact part_set (f:=fun i=>nth B i^^^nth K i) hjl)
         have lJ:(part 16 j (fun i=>nth B i^^^nth K i) (nth B)).length=16:=part_length
         generalize part 16 j (fun i=>nth B i^^^nth K i) (nth B)=C at*
         go_wp2_with fail
         refine region_at 8 (fun w'=>Ext _ w') 27 (by kernel_rfl) (by kernel_rfl) rfl (fun _ _ h k=>h.trans k) (drew_ext _) ?_
         simp only [tSC,List.take_zero,dSC,List.drop_zero,List.map_cons,List.map_nil]
         repeat (first
             | (apply walk_is rfl rfl rfl
                · (intro wx hwx;first|((with_reducible show gives _ _ _ (Sem.run _ (execOp _ (Oper.mk _ (Op.load _ _) _ _ _ _)) _));first|((with_reducible apply gq_ldv (hm.ext hwx));infer_instance;exact rfl;(focus (repeat first|exact .hd|assumption|apply Has.tl);done);(focus (first|omega|(simp;omega)|(refine ltB ?_;first|omega|(simp;done)|(simp;omega))))))|(go_simp;(try go_bits);first|exact gives_same|exact gives_skip))
                · (simp only [Act.put,sIB,sCS,sCZ];rfl))
             | (apply walk_not rfl rfl rfl
                · (simp only [Act.put,sIB,sCS,sCZ];rfl)))
         intro wz hwz
         simp only [zCC,zNR]
         repeat (first|rw [fin_is]|(rw [fin_cons];intro _ _))
         rw [fin_nil]
         try (replace hm:=hm.ext hwz)
         simp only [Act.put,sIB,sCS,sCZ]
         go_wp2_with (first|((((with_reducible show qSt);first|((with_reducible apply wq_stv hm);exact rfl;infer_instance;exact rfl;(focus (repeat first|exact .hd|assumption|apply Swap.tl);done);infer_instance;exact rfl;(focus (first|omega|(simp;omega)|(refine ltB ?_;first|omega|(simp;done)|(simp;omega)))))));clear hm;intro w hm))
         go_roundw
         case rel=>
           rw [EJ.out]at hm
           exact⟨j+1,by omega,by go_num,hm⟩
         case measure=>simp [intOf]<;>omega
       · obtain rfl:j=16:=by omega
         have hj1:decide (((16:Nat):Int)<16)=false:=decide_eq_false (by omega)
         rw [EE.out]at hm
         go_wp2_with fail
         go_roundw
         case rel=>exact⟨k+1,by omega,by go_num,by rw [HS.out];exact hm.drop⟩
         case measure=>simp [intOf]<;>omega
   · obtain rfl:k=ks.length:=by omega
     have hd:decide ((ks.length:Int)<(ks.length:Int))=false:=decide_eq_false (by omega)
     rw [List.take_length]at hm hB
     go_wp2_with (first|((with_reducible show qLd);first|((with_reducible apply wq_ldW hm);exact rfl;infer_instance;exact rfl;(focus (repeat first|exact .hd|assumption|apply Has.tl);done);(focus (first|rfl|omega|(simp;done)|(simp;omega)))))|((((with_reducible show qSt);first|((with_reducible apply wq_stW hm);exact rfl;infer_instance;exact rfl;exact rfl;(focus (repeat first|exact .hd|assumption|apply Swap.tl);done);(focus (first|rfl|omega|(simp;done)|(simp;omega)));(focus (first|rfl|omega|(simp;done)|(simp;omega)));(focus (first|exact one_map _|(simp [one8,one32,one64];done))))));clear hm;intro w hm))
     refine rtO hm rfl rfl (hR:=⟨rfl,hm.x⟩)
theorem tplus_two(a b:List Byte)(ha:a.length=16)(p:Option Addr)(c:Nat)(w0:World)(hk:RdK w0 p 16 [a,b])(hc:2≤c):Gives Tryz.prog 201 #[.slice p 2 c] w0 (A8 (bothL a b)):=by
 have:=tplus_any [a,b] p c w0 hk hc (by simp)
 rwa [show plusL (zer 16) [a,b]=bothL a b from by show bothL (bothL (zer 16) a) b=_;rw [zer_bothL _ ha]]at this
theorem tplus_three(a b d:List Byte)(ha:a.length=16)(p:Option Addr)(c:Nat)(w0:World)(hk:RdK w0 p 16 [a,b,d])(hc:3≤c):Gives Tryz.prog 201 #[.slice p 3 c] w0 (A8 (bothL (bothL a b) d)):=by
 have:=tplus_any [a,b,d] p c w0 hk hc (by simp)
 rwa [show plusL (zer 16) [a,b,d]=bothL (bothL a b) d from by show bothL (bothL (bothL (zer 16) a) b) d=_;rw [zer_bothL _ ha]]at this
end Go.Proofs.YtllnjbiebdkmbaaGreatDoor
