/-
  Texts of the program, walked, and plain ones. Conditions: those written in each theorem.
-/
import Derived.Test.YtneacgpmjlocjaaGreatDoorZTopWrapped0
import Derived.Test.YtneacgpmjlocjaaGreatDoorZTopWrapped17
import Derived.Test.YtneacgpmjlocjaaGreatDoorZTopWrapped6
import Derived.Test.YtneacgpmjlocjaaGreatDoorZTopWrapped8
import Derived.Test.YtneacgpmjlocjaaGreatDoorZTopWrapped9
set_option linter.unusedSimpArgs false
set_option linter.unusedVariables false
set_option maxHeartbeats 16000000
open Go.Lib (hid)
namespace Go.Proofs.YtneacgpmjlocjaaGreatDoor
open Go Go.RowKit
set_option maxRecDepth 100000
def OwnL(B n:Nat)(X:List Byte):Slot:=fun v w=>∃M,SlO M 5 1 v n (X.map v8)∧∀b∈M,B≤b.g∧Row w b.g b.t b.cs
theorem OwnL.stable(B n:Nat)(X:List Byte):Stable (OwnL B n X):=fun _ _ _ ⟨M,h1,h2⟩ hx=>⟨M,h1,fun b hb=>⟨(h2 b hb).1,row_ext (h2 b hb).2 hx⟩⟩
def OwnT(B n:Nat)(X:List Byte):Slot:=fun v w=>∃u,v= .tuple #[u, .int .i64 0]∧OwnL B n X u w
theorem OwnT.stable(B n:Nat)(X:List Byte):Stable (OwnT B n X):=fun _ _ _ ⟨u,h1,h2⟩ hx=>⟨u,h1,OwnL.stable _ _ _ _ _ _ h2 hx⟩
theorem ownL_of {w0 w:World}{B n:Nat}{X:List Byte}{v:Value}{M R:List Blk}(hB:B≤w0.heap.size)(hm:Own w0 w (M++R))(hs:SlO M 5 1 v n (X.map v8)):OwnL B n X v w:=
 ⟨M,hs,fun b hb=>⟨Nat.le_trans hB (hm.2.2 b (by simp [hb])).1,hm.rows b (by simp [hb])⟩⟩
theorem Own.pushM {w0 w1 w:World}{L M:List Blk}{e:TypeId}{sz n:Nat}{v:Value}{cs:List Value}(h:Own w0 w1 L)(hx:Ext w1 w)(hs:SlO M e sz v n cs)(hM:∀b∈M,w1.heap.size≤b.g∧Row w b.g b.t b.cs):Own w0 w (M++L):=by
 rcases hs.2 with ⟨_,_,rfl⟩|⟨g,o,cap,cur,_,rfl,_⟩
 · exact h.ext hx
 · exact h.push hx (hM ⟨g,e,cur⟩ (List.mem_singleton_self _)).1 (hM ⟨g,e,cur⟩ (List.mem_singleton_self _)).2
theorem bs_run3h(a b c:List Byte)(ha:a.length=16)(hb:b.length=16)(hc:c.length=16)(w:World):(Instr.buildSlice 161 3 #[(0,A8 a),(1,A8 b),(2,A8 c)]).run Tryz.prog w= .ok (.slice (some ⟨w.heap.size,0,none⟩) 3 3) (w.alloc (.cells (catV [a,b,c]).toArray 132)):=by
 obtain⟨a0,a1,a2,a3,a4,a5,a6,a7,a8,a9,a10,a11,a12,a13,a14,a15,rfl⟩:=len16 a ha
 obtain⟨b0,b1,b2,b3,b4,b5,b6,b7,b8,b9,b10,b11,b12,b13,b14,b15,rfl⟩:=len16 b hb
 obtain⟨c0,c1,c2,c3,c4,c5,c6,c7,c8,c9,c10,c11,c12,c13,c14,c15,rfl⟩:=len16 c hc
 kernel_rfl
theorem gq_bs3h {P:Program}{dst:Option Tmp}{ty:TypeId}{pos:String}{aft:Array Edge}{gd:Option (Nat×Bool)}{a:Act}{w:World}{T e:TypeId}{u0 u1 u2:Value}{x0 x1 x2:Operand}{ks:List (List Byte)}(hk:∀k∈ks,k.length=16)(hb:(Instr.buildSlice T 3 #[(0,u0),(1,u1),(2,u2)]).run P w= .ok (.slice (some ⟨w.heap.size,0,none⟩) ks.length ks.length) (w.alloc (.cells (catV ks).toArray e)))(hx0:a.eval x0=u0)(hx1:a.eval x1=u1)(hx2:a.eval x2=u2):gives P w (KeysS ks) ((execOp a.eval (Oper.mk dst (.buildSlice T 3 #[(0,x0),(1,x1),(2,x2)]) ty pos aft gd)).run P w):=by
 unfold execOp
 simp [hx0,hx1,hx2,hb]
 exact gives_val (Ext.alloc (Ext.refl _) _) (keys_new w e ks hk)
def p3L(a b c:List Byte):List Byte:=plusL (zer 16) [a,b,c]
theorem p3L_length(a b c:List Byte):(p3L a b c).length=16:=plusL_length _ _ zer_length
def hcOne(h t m:List Byte):List Byte:=bothL (m.take 16) (vhL h t (m.drop 16))
def hcBulk(k0:List Byte)(ks:List (List Byte))(kl h l:List Byte)(bt:List Byte→List Byte)(t m:List Byte):List Byte:=xcL k0 ks kl (p3L (hcOne h t m) (bt (hcOne h t m)) l) (m.drop 16)
def hcDo(k0:List Byte)(ks:List (List Byte))(kl h l:List Byte)(bt:List Byte→List Byte)(t m:List Byte):List Byte:=bothL (bt (hcOne h t m)) (vhL h t (hcBulk k0 ks kl h l bt t m))++hcBulk k0 ks kl h l bt t m
theorem hcOne_length(h t m:List Byte):(hcOne h t m).length=16:=bothL_length _ _
theorem hcBulk_length(k0:List Byte)(ks:List (List Byte))(kl h l:List Byte)(bt:List Byte→List Byte)(t m:List Byte):(hcBulk k0 ks kl h l bt t m).length=m.length-16:=by rw [hcBulk,xcL_length,List.length_drop]
theorem hdoes_gen(FV:FuncId)(hFV:∀args w,(callFunc FV args).run Tryz.prog w= .ok (.enter FV args) w)(g gc n:Nat)(k0 kl h l t m:List Byte)(ks:List (List Byte))(bt:List Byte→List Byte)(hbt:∀x,(bt x).length=16)(ht:t.length≤500)(hl:m.length=n+16)(hn:n<400)(p q:Option Addr)(c d:Nat)(hc:t.length≤c)(hd:n+16≤d)(w0:World)(hh:HcR w0 g k0 ks kl h l)(hr:RdB w0 p t)(hq:RdB w0 q m)
   (BT:∀wx,Ext w0 wx→∀b,b.length=16→Gives Tryz.prog FV #[A8 b, .pointer (some ⟨gc,0,none⟩)] wx (A8 (bt b))):
   Calls Tryz.prog 213 #[.pointer (some ⟨g,0,none⟩), .slice p t.length c, .slice q (n+16) d, .func (.func FV) #[] #[.pointer (some ⟨gc,0,none⟩)]] w0 fun e w'=>∃v M R,e= .returned (.tuple #[v, .int .i64 0])∧Own w0 w' (M++R)∧SlO M 5 1 v (n+16) ((hcDo k0 ks kl h l bt t m).map v8):=by
 have hm:=Own.start w0
 obtain⟨gk,h1,h2,h3,h4⟩:=hh
 have HR:=hid fun w (hx:Ext w0 w)=>row_ext h1 hx
 have EK:Hid ((hcC gk h l)[0]? =some (.pointer (some ⟨gk,0,none⟩))):=hid rfl
 have EH:=hid (hcC_h gk h l h3)
 have EL:=hid (hcC_l gk h l h3 h4)
 obtain⟨f1,f2,f3⟩:=fl_16_at n hn
 have cv:=conv_if f2.of
 have lLf:(m.take 16).length=16:=by rw [List.length_take];omega
 have lBk:(m.drop 16).length=n:=by rw [List.length_drop];omega
 have O1:=hid fun w (hx:Ext w0 w)=>(show Calls Tryz.prog 149 #[.slice q (n+16) d, .complex .f64 0 4625196817309499392] w fun e w'=>∃v M,e= .returned (.tuple #[v, .bool true])∧Own w w' (M++[])∧SlO M 5 1 v 16 ((m.take 16).map v8)from by
   have:=of_own m q d 0 0 4625196817309499392 16 (flv (n+16)) (by rw [hl];exact f1) (by rw [hl];exact f3) (by omega) (by omega) (by omega) w (hq.ext hx)
   rwa [hl,dZe]at this)
 have O2:=hid fun w (hx:Ext w0 w)=>(show Calls Tryz.prog 149 #[.slice q (n+16) d, .complex .f64 4625196817309499392 (flv n)] w fun e w'=>∃v M,e= .returned (.tuple #[v, .bool true])∧Own w w' (M++[])∧SlO M 5 1 v n ((m.drop 16).map v8)from by
   have:=of_own m q d 4625196817309499392 16 (flv n) n (flv (n+16)) (by rw [hl];exact f3) (by rw [hl];exact f2) (by omega) (by omega) (by omega) w (hq.ext hx)
   rw [List.take_of_length_le (l:=m.drop 16) (by omega)]at this
   rwa [hl]at this)
 obtain⟨Lf,hLf⟩:=exq (m.take 16)
 obtain⟨Bk,hBk⟩:=exq (m.drop 16)
 obtain⟨One,hOne⟩:=exq (hcOne h t m)
 obtain⟨V1,hV1⟩:=exq (vhL h t Bk)
 have eOne:bothL Lf V1=One:=by rw [hOne,hV1,hLf,hBk];rfl
 obtain⟨Two,hTwo⟩:=exq (bt One)
 obtain⟨Thr,hThr⟩:=exq (p3L One Two l)
 obtain⟨B2,hB2⟩:=exq (hcBulk k0 ks kl h l bt t m)
 have eB2:xcL k0 ks kl Thr Bk=B2:=by rw [hB2,hThr,hTwo,hOne,hBk];rfl
 obtain⟨V2,hV2⟩:=exq (vhL h t B2)
 obtain⟨Fst,hFst⟩:=exq (bothL Two V2)
 obtain⟨OUT,hOUT⟩:=exq (hcDo k0 ks kl h l bt t m)
 have eO:Fst++B2=OUT:=by rw [hOUT,hFst,hV2,hB2,hTwo,hOne];rfl
 have lV1:V1.length=16:=by rw [hV1];exact vhL_length _ _ _
 have lOne:One.length=16:=by rw [hOne];exact hcOne_length _ _ _
 have lTwo:Two.length=16:=by rw [hTwo];exact hbt _
 have lThr:Thr.length=16:=by rw [hThr];exact p3L_length _ _ _
 have lB2:B2.length=n:=by rw [hB2,hcBulk_length];omega
 have lV2:V2.length=16:=by rw [hV2];exact vhL_length _ _ _
 have lFst:Fst.length=16:=by rw [hFst];exact bothL_length _ _
 rw [←hLf]at O1 lLf
 rw [←hBk]at O2 lBk
 have BL:=hid fun (w:World)(p:Option Addr)(c:Nat)(hr:RdB w p Lf)=>(show Gives Tryz.prog 69 #[.slice p 16 c] w (A8 Lf)from by
   have:=oblock_any Lf p c w hr;rwa [lLf,blk_self Lf lLf]at this)
 have H1:=hid fun (w:World)(hx:Ext w0 w)(q2:Option Addr)(d2:Nat)(hd2:n≤d2)(hq2:RdB w q2 Bk)=>(show Gives Tryz.prog 217 #[A8 h, .slice p t.length c, .slice q2 n d2] w (A8 V1)from by
   have:=vhash_any h t Bk h3 ht (by omega) p q2 c d2 hc (by omega) w (hr.ext hx) hq2
   rwa [lBk,←hV1]at this)
 have H2:=hid fun (w:World)(hx:Ext w0 w)(q2:Option Addr)(d2:Nat)(hd2:n≤d2)(hq2:RdB w q2 B2)=>(show Gives Tryz.prog 217 #[A8 h, .slice p t.length c, .slice q2 n d2] w (A8 V2)from by
   have:=vhash_any h t B2 h3 ht (by omega) p q2 c d2 hc (by omega) w (hr.ext hx) hq2
   rwa [lB2,←hV2]at this)
 have P1:=hid fun (w:World)(p:Option Addr)(c:Nat)(hc:[Lf,V1].length≤c)(hk:RdK w p 16 [Lf,V1])=>(show Gives Tryz.prog 216 #[.slice p 2 c] w (A8 One)from by rw [←eOne];exact hcplus_two Lf V1 lLf lV1 p c w hk hc)
 have P2:=hid fun (w:World)(p:Option Addr)(c:Nat)(hc:[One,Two,l].length≤c)(hk:RdK w p 16 [One,Two,l])=>(show Gives Tryz.prog 216 #[.slice p 3 c] w (A8 Thr)from by rw [hThr];exact hcplus_any [One,Two,l] p c w hk hc (by simp))
 have P3:=hid fun (w:World)(p:Option Addr)(c:Nat)(hc:[Two,V2].length≤c)(hk:RdK w p 16 [Two,V2])=>(show Gives Tryz.prog 216 #[.slice p 2 c] w (A8 Fst)from by rw [hFst];exact hcplus_two Two V2 lTwo lV2 p c w hk hc)
 have BTW:=hid fun w (hx:Ext w0 w)=>(show Gives Tryz.prog FV #[A8 One, .pointer (some ⟨gc,0,none⟩)] w (A8 Two)from by rw [hTwo];exact BT w hx One lOne)
 have XC:=hid fun (w wx:World)(hx0:Ext w0 wx)(hx:Ext w wx)(q2:Option Addr)(d2:Nat)(hd2:n≤d2)(hq2:RdB wx q2 Bk)=>(show GivesR Tryz.prog 218 #[.pointer (some ⟨gk,0,none⟩),A8 Thr, .slice q2 n d2] wx (OwnT w.heap.size n B2)from by
   have h0:=xcryptO gk k0 kl ks Thr Bk lThr (by omega) q2 d2 wx (h2.ext hx0) hq2 (by omega)
   rw [eB2,lBk]at h0
   refine Calls.mono h0 ?_
   rintro e w' ⟨v,M,R,rfl,hm1,hs⟩
   exact⟨_,rfl,⟨v,rfl,ownL_of hx.size hm1 hs⟩,hm1.x⟩)
 have K1:=hid (bs_run2 Lf V1 lLf lV1)
 have K2:=hid (bs_run3h One Two l lOne lTwo h4)
 have K3:=hid (bs_run2 Two V2 lTwo lV2)
 have k1:Hid (∀k∈[Lf,V1],k.length=16):=hid (by intro k hk;simp at hk;rcases hk with rfl|rfl<;>assumption)
 have k2:Hid (∀k∈[One,Two,l],k.length=16):=hid (by intro k hk;simp at hk;rcases hk with rfl|rfl|rfl<;>assumption)
 have k3:Hid (∀k∈[Two,V2],k.length=16):=hid (by intro k hk;simp at hk;rcases hk with rfl|rfl<;>assumption)
 have lF:[Fst,B2].flatten.length=n+16:=by simp [lFst,lB2];omega
 have eF:[Fst,B2].flatten=OUT:=by simp [eO]
 have CC:=hid fun (w:World)(p:Option Addr)(h:RdR w p [Fst,B2])=>(show Calls Tryz.prog 43 #[.slice p 2 2] w fun e w'=>∃v M,e= .returned v∧Own w w' (M++[])∧SlO M 5 1 v (n+16) (OUT.map v8)from by
   have:=concat_any [Fst,B2] p 2 w h (by simp) (by rw [lF];omega)
   rwa [lF,eF]at this)
 have RR:=hid fun (g g2:Nat)(ty:TypeId)(q2:Option Addr)(d2:Nat)(w:World)(hd2:n≤d2)(h:Row w g ty [.slice (some ⟨g2,0,none⟩) 16 16, .slice q2 n d2])(ha:RdB w (some ⟨g2,0,none⟩) Fst)(hb:RdB w q2 B2)=>(rdR2 (a:=Fst) (b:=B2) (by rw [lFst,lB2];exact h) ha hb (by omega) (by omega) (by unfold maxLen;omega) (by unfold maxLen;omega))
 have HH:=hid h3
 have HLn:=hid h4
 have y1:=Nat.le_of_eq lOne
 have y2:=Nat.le_of_eq lOne.symm
 have y3:=Nat.le_of_eq lTwo
 have y4:=Nat.le_of_eq lTwo.symm
 have y5:=Nat.le_of_eq lFst
 have y6:=Nat.le_of_eq lFst.symm
 have d1:decide ((n:Int)+16<16)=false:=decide_eq_false (by omega)
 have d2:¬(n:Int)+16<16:=by omega
 obtain⟨PC,hPC⟩:=exq (hcC gk h l)
 rw [←hPC]at HR EK EH EL
 obtain⟨TL,hTL⟩:=exq (t.length)
 rw [←hTL]at H1 H2⊢
 rw [←hOUT]
 obtain⟨FN,hFN⟩:=exq (flv n)
 rw [←hFN]at cv O2
 clear h1 h2 h3 h4 f1 f2 f3 hr hq ht hl hc hTL hPC hLf hBk hOne hV1 eOne hTwo hThr hB2 eB2 hV2 hFst hOUT eO hFN BT lV1 lOne lTwo lThr lB2 lV2 lFst lF eF lLf lBk hbt
 go_enter Tryz.func213,Tryz.ntmps213
 go_wp2_with (first|(go_at_call 149;(with_reducible refine(O1.out _ hm.x).mono ?_);rintro e_ w ⟨v1,M1,rfl,hm1,hs1⟩;rw [List.append_nil]at hm1;replace hm:=hm.join hm1;obtain⟨p1,c1,rfl⟩:=hs1.form;clear hm1)|(go_at_call 149;(with_reducible refine(O2.out _ hm.x).mono ?_);rintro e_ w ⟨v2,M2,rfl,hm1,hs2⟩;rw [List.append_nil]at hm1;replace hm:=hm.join hm1;obtain⟨p2,c2,rfl⟩:=hs2.form;clear hm1))
 rw [List.append_nil]at hm
 have RL:=hid fun wx L (h:Own w0 wx (L++(M2++M1)))=>(slo_rdZ hs1 (R:=[]) (by rw [List.append_nil];exact h.dropN.dropN):RdB wx p1 Lf)
 have RB:=hid fun wx L (h:Own w0 wx (L++(M2++M1)))=>(slo_rdZ hs2 h.dropN:RdB wx p2 Bk)
 have c2n:n≤c2:=by
   obtain⟨_,_,hv,h1,_⟩:=hs2.cells hm
   cases hv
   exact h1
 clear hs1 hs2
 have hx0:=hm.x
 have hmA:=hm
 have a1:=fun wx (hwx:Ext w wx)=>BL.out wx p1 c1 (RL.out wx [] (hmA.ext hwx))
 have a2:=fun wx (hwx:Ext w wx)=>H1.out wx (hx0.trans hwx) p2 c2 c2n (RB.out wx [] (hmA.ext hwx))
 have R7:=hid fun wx (hwx:Ext w wx)=>HR.out wx (hx0.trans hwx)
 refine region_new 12 (fun w'=>Ext _ w') 84 (by kernel_rfl) (by kernel_rfl) rfl (fun _ _ h k=>h.trans k) (drew_ext _) ?_
 simp only [zTa]
 repeat (first
     | (apply walk_some (NewS (w.heap.size) 132 ((zer 16).map v8)) 14 (NewS.stable _ _ _) rfl rfl rfl rfl
        · (intro wx hwx;go_simp;exact gives_new (cs:=(zer 16).map v8) hwx.size))
     |(apply walk_is rfl rfl rfl;(intro wx hwx;(with_reducible apply gq_rowN (R7.out wx hwx));infer_instance;exact rfl;exact EH.out;exact(by rw [List.length_map];exact HH.out));(simp only [zPu];rfl))
     |(apply walk_some (KeysS ([Lf,V1])) 48 (KeysS.stable _) rfl rfl rfl rfl;(intro wx hwx;exact gq_bs2 (k1.out) (K1.out wx) rfl rfl))
     | (apply walk_from (T:=[(48,KeysS [Lf,V1])]) rfl rfl
        · (intro wx hwx;simp only [withS];(rintro x_ ⟨p_,c_,rfl,hc_,hk_⟩);refine⟨rfl, ?_⟩;go_simp;with_reducible exact gives_call (P1.out wx p_ c_ hc_ hk_))
        · (simp only [zPu];rfl))
     | (apply walk_is rfl rfl rfl
        · (intro wx hwx;go_simp;(try go_bits);first|exact gives_same|exact gives_skip|with_reducible exact gives_call (a1 wx hwx)|with_reducible exact gives_call (a2 wx hwx))
        · (simp only [zPu];rfl))
     | (apply walk_not rfl rfl rfl
        · (simp only [zPu];rfl)))
 intro wz hwz
 simp only [zZi]
 repeat rw [fin_is]
 rw [fin_cons];intro y48 hy48
 repeat rw [fin_is]
 rw [fin_cons];intro x14 hx14
 repeat rw [fin_is]
 rw [fin_nil];intro hap
 simp only [zPu]at hap⊢
 clear hy48
 obtain⟨g14_,rfl,hg14,hr14⟩:=hx14
 replace hm:=hm.push hwz hg14 hr14
 clear hap hr14
 clear a1 a2 hmA hx0 R7
 go_wp2_with (first|((with_reducible show qLd);refine zB hm ?_)|((with_reducible show qSt);refine zE hm ?_;clear hm;intro w hm))
 refine(BTW.out _ hm.x).mono ?_
 rintro e_ w ⟨rfl,hx_⟩
 replace hm:=hm.ext hx_
 clear hx_
 go_wp2_with (first|((with_reducible show qSt);refine zE hm ?_;clear hm;intro w hm)|(((with_reducible show qAl);refine zG hm ?_);clear hm;(first|(have hx_:=g1;clear hx_;(first|(have hx_:=g2;clear hx_;intro gx_)|intro g2))|intro g1);intro w hm))
 have hx0:=hm.x
 have hmA:=hm
 have a2:=fun wx (hwx:Ext w wx)=>XC.out w wx (hx0.trans hwx) hwx p2 c2 c2n (RB.out wx [_,_] (hmA.ext hwx))
 have R7:=hid fun wx (hwx:Ext w wx)=>HR.out wx (hx0.trans hwx)
 refine region_new 18 (fun w'=>Ext _ w') 84 (by kernel_rfl) (by kernel_rfl) rfl (fun _ _ h k=>h.trans k) (drew_ext _) ?_
 simp only [zTa]
 repeat (first
     |(apply walk_is rfl rfl rfl;(intro wx hwx;(with_reducible apply gq_rowN (R7.out wx hwx));infer_instance;exact rfl;exact EL.out;exact(by rw [List.length_map];exact HLn.out));(simp only [zPu];rfl))
     | (apply walk_is rfl rfl rfl
        · (intro wx hwx;(with_reducible apply gq_row1 ((R7.out) wx hwx));infer_instance;exact rfl;(exact EK.out))
        · (simp only [zPu];rfl))
     |(apply walk_some (KeysS [One,Two,l]) 64 (KeysS.stable _) rfl rfl rfl rfl;(intro wx hwx;exact gq_bs3h k2.out (K2.out wx) rfl rfl rfl))
     | (apply walk_from (T:=[(64,KeysS [One,Two,l])]) rfl rfl
        · (intro wx hwx;simp only [withS];(rintro x_ ⟨p_,c_,rfl,hc_,hk_⟩);refine⟨rfl, ?_⟩;go_simp;with_reducible exact gives_call (P2.out wx p_ c_ hc_ hk_))
        · (simp only [zPu];rfl))
     | (apply walk_some (OwnT w.heap.size n B2) 67 (OwnT.stable _ _ _) rfl rfl rfl rfl
        · (intro wx hwx;go_simp;with_reducible exact gives_callR (a2 wx hwx)))
     | (apply walk_from_some (T:=[(67,OwnT w.heap.size n B2)]) (OwnT w.heap.size n B2) 53 (OwnT.stable _ _ _) rfl rfl rfl
        · (intro wx hwx;simp only [withS];(rintro x_ ⟨u_,rfl,h_⟩);refine⟨rfl, ?_⟩;go_simp;exact gives_val (Ext.refl _) ⟨u_,rfl,h_⟩))
     | (apply walk_from_some (T:=[(53,OwnT w.heap.size n B2)]) (OwnL w.heap.size n B2) 68 (OwnL.stable _ _ _) rfl rfl rfl
        · (intro wx hwx;simp only [withS];(rintro x_ ⟨u_,rfl,h_⟩);refine⟨rfl, ?_⟩;go_simp;exact gives_val (V:=OwnL w.heap.size n B2) (Ext.refl _) h_))
     | (apply walk_from (T:=[(53,OwnT w.heap.size n B2)]) rfl rfl
        · (intro wx hwx;simp only [withS];(rintro x_ ⟨u_,rfl,h_⟩);refine⟨rfl, ?_⟩;go_simp;exact gives_same)
        · (simp only [zPu];rfl))
     | (apply walk_from_some (T:=[(68,OwnL w.heap.size n B2)]) (OwnL w.heap.size n B2) 12 (OwnL.stable _ _ _) rfl rfl rfl
        · (intro wx hwx;simp only [withS];(intro x_ h_);refine⟨rfl, ?_⟩;go_simp;exact gives_val (V:=OwnL w.heap.size n B2) (Ext.refl _) h_))
     | (apply walk_is rfl rfl rfl
        · (intro wx hwx;first|((with_reducible show qGl);exact zK (hm.ext hwx))|(go_simp;(try go_bits);first|exact gives_same|exact gives_skip))
        · (simp only [zPu];rfl))
     | (apply walk_not rfl rfl rfl
        · (simp only [zPu];rfl)))
 intro wz hwz
 simp only [zZi]
 repeat rw [fin_is]
 rw [fin_cons];intro x64 hx64
 repeat rw [fin_is]
 rw [fin_cons];intro x67 hx67
 repeat rw [fin_is]
 rw [fin_cons];intro x53 hx53
 repeat rw [fin_is]
 rw [fin_cons];intro x68 hx68
 repeat rw [fin_is]
 rw [fin_cons];intro x12 hx12
 repeat rw [fin_is]
 rw [fin_nil];intro hap
 simp only [zPu]at hap⊢
 obtain⟨M3,hs3,hM3⟩:=hx12
 clear hm hx64 hx67 hx53 hx68 a2 hap
 have hm:=hmA.pushM hwz hs3 hM3
 obtain⟨p3,c3,rfl⟩:=hs3.form
 clear hmA hx0 R7 hM3 hwz
 obtain⟨w,rfl⟩:∃w_,w_=wz:=⟨_,rfl⟩
 have RB3:=hid fun wx L (h:Own w0 wx (L++(M3++(⟨g1,132,Two.map v8⟩::⟨g14_,132,One.map v8⟩::(M2++M1)))))=>(slo_rdZ hs3 h.dropN:RdB wx p3 B2)
 have c3n:n≤c3:=by
   obtain⟨_,_,hv,h1,_⟩:=hs3.cells hm
   cases hv
   exact h1
 clear hs3
 go_wp2_with fail
 have hx0:=hm.x
 have hmA:=hm
 have a2:=fun wx (hwx:Ext w wx)=>H2.out wx (hx0.trans hwx) p3 c3 c3n (RB3.out wx [] (hmA.ext hwx))
 have R7:=hid fun wx (hwx:Ext w wx)=>HR.out wx (hx0.trans hwx)
 refine region_new 11 (fun w'=>Ext _ w') 84 (by kernel_rfl) (by kernel_rfl) rfl (fun _ _ h k=>h.trans k) (drew_ext _) ?_
 simp only [zTa]
 repeat (first
     | (apply walk_some (NewS (w.heap.size) 132 ((zer 16).map v8)) 16 (NewS.stable _ _ _) rfl rfl rfl rfl
        · (intro wx hwx;go_simp;exact gives_new (cs:=(zer 16).map v8) hwx.size))
     |(apply walk_is rfl rfl rfl;(intro wx hwx;(with_reducible apply gq_rowN (R7.out wx hwx));infer_instance;exact rfl;exact EH.out;exact(by rw [List.length_map];exact HH.out));(simp only [zPu];rfl))
     |(apply walk_some (KeysS ([Two,V2])) 78 (KeysS.stable _) rfl rfl rfl rfl;(intro wx hwx;exact gq_bs2 (k3.out) (K3.out wx) rfl rfl))
     | (apply walk_from (T:=[(78,KeysS [Two,V2])]) rfl rfl
        · (intro wx hwx;simp only [withS];(rintro x_ ⟨p_,c_,rfl,hc_,hk_⟩);refine⟨rfl, ?_⟩;go_simp;with_reducible exact gives_call (P3.out wx p_ c_ hc_ hk_))
        · (simp only [zPu];rfl))
     | (apply walk_is rfl rfl rfl
        · (intro wx hwx;first|((with_reducible show qGl);exact zK (hm.ext hwx))|(go_simp;(try go_bits);first|exact gives_same|exact gives_skip|with_reducible exact gives_call (a2 wx hwx)))
        · (simp only [zPu];rfl))
     | (apply walk_not rfl rfl rfl
        · (simp only [zPu];rfl)))
 intro wz hwz
 simp only [zZi]
 repeat rw [fin_is]
 rw [fin_cons];intro y78 hy78
 repeat rw [fin_is]
 rw [fin_cons];intro x16 hx16
 repeat rw [fin_is]
 rw [fin_nil];intro hap
 simp only [zPu]at hap⊢
 clear hy78
 obtain⟨g16_,rfl,hg16,hr16⟩:=hx16
 replace hm:=hm.push hwz hg16 hr16
 clear hap hr16
 clear a2 hmA hx0 R7
 have BS:=hid fun g=>bs_s2 (some ⟨g,0,none⟩) p3 16 16 n c3
 go_wp2_with (first|((with_reducible apply wq_bs2g (BS.out _) hm);exact rfl;exact rfl;exact rfl;clear hm;intro gb w hm)|((with_reducible show qSt);refine zE hm ?_;clear hm;intro w hm))
 refine(CC.out w _ (RR.out gb g16_ _ p3 c3 w c3n (hm.row .hd) (hm.rdB (g:=g16_) (l:=Fst) (.tl .hd)) (RB3.out w [_,_] hm))).mono ?_
 rintro e_ w ⟨v5,M5,rfl,hm1,hs5⟩
 rw [List.append_nil]at hm1
 replace hm:=hm.join hm1
 clear hm1
 go_wp2_with fail
 go_ret2
 exact⟨_,M5,_,rfl,hm,hs5⟩
theorem henc1_any(g gc:Nat)(k0 kl h l b:List Byte)(ks:List (List Byte))(hb:b.length=16)(w0:World)(hh:HcR w0 g k0 ks kl h l)(hc:Row w0 gc 100 [.pointer (some ⟨g,0,none⟩)]):Gives Tryz.prog 215 #[A8 b, .pointer (some ⟨gc,0,none⟩)] w0 (A8 (aesE k0 ks kl b)):=by
 unfold Gives
 have hm:=Own.start w0
 obtain⟨gk,h1,h2,_,_⟩:=hh
 have HR:=hid fun w (hx:Ext w0 w)=>row_ext h1 hx
 have HC:=hid fun w (hx:Ext w0 w)=>row_ext hc hx
 have EN:=hid fun w (hx:Ext w0 w)=>encrypt_any gk k0 kl ks b hb w (h2.ext hx)
 have lE:=aesE_length k0 ks kl b
 generalize aesE k0 ks kl b=E at*
 have EK:Hid ((hcC gk h l)[0]? =some (.pointer (some ⟨gk,0,none⟩))):=hid rfl
 obtain⟨PC,hPC⟩:=exq (hcC gk h l)
 rw [←hPC]at HR EK
 have h3:=Nat.le_of_eq hb
 have h4:=Nat.le_of_eq hb.symm
 have h5:=Nat.le_of_eq lE
 have h6:=Nat.le_of_eq lE.symm
 clear h1 h2 hc hPC hb
 go_enter Tryz.func215,Tryz.ntmps215
 go_wp2_with (first|((first|((with_reducible show qAl);refine zG hm ?_)|((with_reducible show qBx);refine zH hm ?_));clear hm;intro gx_;intro w hm))
 have hx0:=hm.x
 have a1:=fun wx (hwx:Ext w wx)=>EN.out wx (hx0.trans hwx)
 have R1:=hid fun wx (hwx:Ext w wx)=>HR.out wx (hx0.trans hwx)
 have R2:=hid fun wx (hwx:Ext w wx)=>HC.out wx (hx0.trans hwx)
 refine rgE 6 10 ?_
 simp only [zTa]
 repeat (first
     | (apply walk_is rfl rfl rfl
        · (intro wx hwx;(with_reducible apply gq_row1 ((R2.out) wx hwx));infer_instance;exact rfl;exact rfl)
        · (simp only [zPu];rfl))
     | (apply walk_is rfl rfl rfl
        · (intro wx hwx;(with_reducible apply gq_row1 ((R1.out) wx hwx));infer_instance;exact rfl;(exact EK.out))
        · (simp only [zPu];rfl))
     | (apply walk_is rfl rfl rfl
        · (intro wx hwx;first|((with_reducible show qGl);exact zK (hm.ext hwx))|(go_simp;(try go_bits);first|exact gives_same|exact gives_skip|with_reducible exact gives_call (a1 wx hwx)))
        · (simp only [zPu];rfl))
     | (apply walk_not rfl rfl rfl
        · (simp only [zPu];rfl)))
 intro wz hwz
 simp only [zZi]
 repeat (first|rw [fin_is]|(rw [fin_cons];intro _ _))
 rw [fin_nil]
 try (replace hm:=hm.ext hwz)
 simp only [zPu]
 clear a1 hx0
 go_wp2_with (first|((with_reducible show qSt);refine zE hm ?_;clear hm;intro w hm))
 refine rtO hm rfl rfl ⟨rfl,hm.x⟩
theorem henc_any(g n:Nat)(k0 kl h l t m:List Byte)(ks:List (List Byte))(ht:t.length≤500)(hl:m.length=n+16)(hn:n<400)(p q:Option Addr)(c d:Nat)(hc:t.length≤c)(hd:n+16≤d)(w0:World)(hh:HcR w0 g k0 ks kl h l)(hr:RdB w0 p t)(hq:RdB w0 q m):
   Calls Tryz.prog 211 #[.pointer (some ⟨g,0,none⟩), .slice p t.length c, .slice q (n+16) d] w0 fun e w'=>∃v M R,e= .returned (.tuple #[v, .int .i64 0])∧Own w0 w' (M++R)∧SlO M 5 1 v (n+16) ((hcDo k0 ks kl h l (aesE k0 ks kl) t m).map v8):=by
 have hm:=Own.start w0
 have DO:=hid fun (gc:Nat)(w:World)(hx:Ext w0 w)(hc1:Row w gc 100 [.pointer (some ⟨g,0,none⟩)])=>hdoes_gen 215 (fun args w=>by kernel_rfl) g gc n k0 kl h l t m ks (aesE k0 ks kl) (fun x=>aesE_length _ _ _ _) ht hl hn p q c d hc hd w (hh.ext hx) (hr.ext hx) (hq.ext hx) (fun wx hwx b hb=>henc1_any g gc k0 kl h l b ks hb wx ((hh.ext hx).ext hwx) (row_ext hc1 hwx))
 generalize hcDo k0 ks kl h l (aesE k0 ks kl) t m=OUT at*
 obtain⟨TL,hTL⟩:=exq (t.length)
 rw [←hTL]at DO⊢
 clear hr hq hh hl ht hc hTL
 go_enter Tryz.func211,Tryz.ntmps211
 go_wp2_with (first|((with_reducible apply wq_box1 (v:= .pointer (some ⟨g,0,none⟩)) hm);exact rfl;exact rfl;exact rfl;clear hm;intro g1 w hm)|((with_reducible show qLd);refine zC hm ?_))
 refine(DO.out g1 w hm.x (hm.row .hd)).mono ?_
 rintro e_ w ⟨v5,M5,R5,rfl,hm1,hs5⟩
 replace hm:=hm1.rebase hm.x
 clear hm1
 go_wp2_with fail
 go_ret2
 exact⟨_,M5,_,rfl,hm,hs5⟩
theorem zer_bothL(x:List Byte)(h:x.length=16):bothL (zer 16) x=x:=nth_ext (by rw [bothL_length,h]) fun i hi=>by
 rw [bothL_length]at hi
 rw [bothL_nth _ _ _ hi,zer,nth_tab hi];simp
theorem tplus_any(ks:List (List Byte))(p:Option Addr)(c:Nat)(w0:World)(hk:RdK w0 p 16 ks)(hc:ks.length≤c)(hcm:ks.length≤70368744177664):Gives Tryz.prog 134 #[.slice p ks.length c] w0 (A8 (plusL (zer 16) ks)):=by
 unfold Gives
 have hm:=Own.start w0
 have HK:=hid hk
 have HZ:=hid (show(zer (n:=8) 16).length=16 from zer_length)
 clear hk
 go_enter Tryz.func134,Tryz.ntmps134
 go_wp2_with (first|(((with_reducible show qAl);refine zG hm ?_);clear hm;(first|(have hx_:=g1;clear hx_;(first|(have hx_:=g2;clear hx_;(first|(have hx_:=g3;clear hx_;intro gx_)|intro g3))|intro g2))|intro g1);intro w hm))
 go_loopw [9] (fun i wr=>∃k:Nat,k≤ks.length∧i= .int .i64 k∧Own w0 wr [⟨g2,132,(plusL (zer 16) (ks.take k)).map v8⟩,⟨g1,132,(zer 16).map v8⟩]) (fun i _=>ks.length-(intOf i).toNat)
 case atStart=>exact⟨0,by omega,rfl,hm⟩
 case round =>
   obtain⟨k,hk,rfl,hm⟩:=hrel
   have hB:=plusL_length (ks.take k) (zer 16) HZ.out
   by_cases hlt:k<ks.length
   · have hd : decide ((k:Int)<(ks.length:Int))=true:=decide_eq_true (by omega)
     have hd2:(k:Int)<(ks.length:Int):=by omega
     obtain⟨a,rfl⟩:=HK.out.addr (by omega) (by omega)
     obtain⟨hK,hKl⟩:=HK.out.at (by omega) k hlt
     have hS:=plusL_take (zer 16) ks k hlt
     simp only [Option.getD_some]at hK
     generalize plusL (zer 16) (ks.take k)=B at*
     generalize ks.getD k []=K at*
     have HS:=hid hS
     have HK2:=hid hK
     have ES:Hid (B=part 16 0 (fun i=>nth B i^^^nth K i) (nth B)):=hid (part_start hB)
     have EE:Hid (part 16 16 (fun i=>nth B i^^^nth K i) (nth B)=bothL B K):=hid part_all
     have hK1:=Nat.le_of_eq hKl
     have hK2':=Nat.le_of_eq hKl.symm
     clear hK hS
     go_wp2_with (first|((with_reducible apply wq_rdW (HK2.out.ext hm.x));exact rfl;infer_instance;exact rfl;exact hKl)|((with_reducible show qSt);refine zE hm ?_;clear hm;intro w hm)|(((with_reducible show qAl);refine zG hm ?_);clear hm;(first|(have hx_:=g1;clear hx_;(first|(have hx_:=g2;clear hx_;(first|(have hx_:=g3;clear hx_;intro gx_)|intro g3))|intro g2))|intro g1);intro w hm))
     rw [ES.out]at hm
     go_loopw [13] (fun i wr=>∃j:Nat,j≤16∧i= .int .i64 j∧Own w0 wr [⟨g3,132,K.map v8⟩,⟨g2,132,(part 16 j (fun i=>nth B i^^^nth K i) (nth B)).map v8⟩,⟨g1,132,(zer 16).map v8⟩]) (fun i _=>16-(intOf i).toNat)
     case atStart=>exact⟨0,by omega,rfl,hm⟩
     case round =>
       obtain⟨j,hj,rfl,hm⟩:=hrel
       by_cases hjl:j<16
       · have hj1:decide ((j:Int)<16)=true:=decide_eq_true (by omega)
         have hj2:(j:Int)<16:=by omega
         have EJ:Hid (setN (part 16 j (fun i=>nth B i^^^nth K i) (nth B)) j (nth (part 16 j (fun i=>nth B i^^^nth K i) (nth B)) j^^^nth K j)=part 16 (j+1) (fun i=>nth B i^^^nth K i) (nth B)):=hid (by
           rw [nth_part_ge hjl (Nat.le_refl _)];exact part_set (f:=fun i=>nth B i^^^nth K i) hjl)
         have lJ:(part 16 j (fun i=>nth B i^^^nth K i) (nth B)).length=16:=part_length
         generalize part 16 j (fun i=>nth B i^^^nth K i) (nth B)=C at*
         go_wp2_with fail
         refine rgE 8 27 ?_
         simp only [zTa]
         repeat (first
             | (apply walk_is rfl rfl rfl
                · (intro wx hwx;first|((with_reducible show qGl);exact zJ (hm.ext hwx))|(go_simp;(try go_bits);first|exact gives_same|exact gives_skip))
                · (simp only [zPu];rfl))
             | (apply walk_not rfl rfl rfl
                · (simp only [zPu];rfl)))
         intro wz hwz
         simp only [zZi]
         repeat (first|rw [fin_is]|(rw [fin_cons];intro _ _))
         rw [fin_nil]
         try (replace hm:=hm.ext hwz)
         simp only [zPu]
         go_wp2_with (first|((with_reducible show qSt);refine zD hm ?_;clear hm;intro w hm))
         go_roundw
         case rel=>
           rw [EJ.out]at hm
           exact⟨j+1,by omega,by go_num,hm⟩
         case measure=>simp [intOf]<;>omega
       · obtain rfl:j=16:=by omega
         have hj1:decide (((16:Nat):Int)<16)=false:=decide_eq_false (by omega)
         rw [EE.out]at hm
         go_wp2_with fail
         go_roundw
         case rel=>exact⟨k+1,by omega,by go_num,by rw [HS.out];exact hm.drop⟩
         case measure=>simp [intOf]<;>omega
   · obtain rfl:k=ks.length:=by omega
     have hd:decide ((ks.length:Int)<(ks.length:Int))=false:=decide_eq_false (by omega)
     rw [List.take_length]at hm hB
     go_wp2_with (first|((with_reducible show qLd);refine zB hm ?_)|((with_reducible show qSt);refine zE hm ?_;clear hm;intro w hm))
     refine rtO hm rfl rfl ⟨rfl,hm.x⟩
theorem tplus_two(a b:List Byte)(ha:a.length=16)(p:Option Addr)(c:Nat)(w0:World)(hk:RdK w0 p 16 [a,b])(hc:2≤c):Gives Tryz.prog 134 #[.slice p 2 c] w0 (A8 (bothL a b)):=by
 have:=tplus_any [a,b] p c w0 hk hc (by simp)
 rwa [show plusL (zer 16) [a,b]=bothL a b from by show bothL (bothL (zer 16) a) b=_;rw [zer_bothL _ ha]]at this
theorem tplus_three(a b d:List Byte)(ha:a.length=16)(p:Option Addr)(c:Nat)(w0:World)(hk:RdK w0 p 16 [a,b,d])(hc:3≤c):Gives Tryz.prog 134 #[.slice p 3 c] w0 (A8 (bothL (bothL a b) d)):=by
 have:=tplus_any [a,b,d] p c w0 hk hc (by simp)
 rwa [show plusL (zer 16) [a,b,d]=bothL (bothL a b) d from by show bothL (bothL (bothL (zer 16) a) b) d=_;rw [zer_bothL _ ha]]at this
theorem xor_twice(a b:List Byte)(h:a.length≤b.length):xorL (xorL a b) b=a:=by
 apply List.ext_getElem
 · simp [xorL_length];omega
 · intro i h1 h2
   simp [xorL,BitVec.xor_assoc]
def glueF(G:Nat→List Byte):Nat→List Byte
 |0=>[]
 |k+1=>glueF G k++G k
def sumG(G:Nat→List Byte):Nat→List Byte
 |0=>zer 16
 |k+1=>bothL (sumG G k) (G k)
theorem sumG_length(G:Nat→List Byte):∀n,(sumG G n).length=16
 |0=>zer_length
 |_+1=>bothL_length _ _
theorem glueF_length(G:Nat→List Byte)(hG:∀k,(G k).length=32):∀n,(glueF G n).length=32*n
 |0=>rfl
 |n+1=>by rw [glueF,List.length_append,glueF_length G hG n,hG];omega
theorem glueF_ext(G H:Nat→List Byte):∀n,(∀k,k<n→G k=H k)→glueF G n=glueF H n
 |0,_=>rfl
 |n+1,h=>by rw [glueF,glueF,glueF_ext G H n fun k hk=>h k (by omega),h n (by omega)]
theorem sumG_ext(G H:Nat→List Byte):∀n,(∀k,k<n→G k=H k)→sumG G n=sumG H n
 |0,_=>rfl
 |n+1,h=>by rw [sumG,sumG,sumG_ext G H n fun k hk=>h k (by omega),h n (by omega)]
theorem glueF_at(G:Nat→List Byte)(hG:∀k,(G k).length=32)(k:Nat):∀n,k<n→((glueF G n).drop (32*k)).take 32=G k
 |0,h=>by omega
 | n +1,h=>by
   have hl:=glueF_length G hG n
   by_cases e:k=n
   · subst e
     rw [glueF,List.drop_append_of_le_length (by omega),List.drop_eq_nil_of_le (by omega),List.nil_append,List.take_of_length_le (by rw [hG];omega)]
   · rw [glueF,List.drop_append_of_le_length (by omega),List.take_append_of_le_length (by rw [List.length_drop];omega),glueF_at G hG k n (by omega)]
def fstB(ps:List Byte)(k:Nat):List Byte:=(ps.drop (32*k)).take 16
def sndB(ps:List Byte)(k:Nat):List Byte:=(ps.drop (32*k+16)).take 16
theorem fstB_of(ps:List Byte)(k:Nat):fstB ps k=(((ps.drop (32*k)).take 32)).take 16:=by rw [fstB,List.take_take];rfl
theorem sndB_of(ps:List Byte)(k:Nat):sndB ps k=(((ps.drop (32*k)).take 32)).drop 16:=by
 rw [sndB,List.drop_take,List.drop_drop]
theorem fst_glue(G:Nat→List Byte)(hG:∀k,(G k).length=32)(k n:Nat)(h:k<n):fstB (glueF G n) k=(G k).take 16:=by rw [fstB_of,glueF_at G hG k n h]
theorem snd_glue(G:Nat→List Byte)(hG:∀k,(G k).length=32)(k n:Nat)(h:k<n):sndB (glueF G n) k=(G k).drop 16:=by rw [sndB_of,glueF_at G hG k n h]
theorem fstB_length(ps:List Byte)(k:Nat)(h:32*k+16≤ps.length):(fstB ps k).length=16:=by rw [fstB,List.length_take,List.length_drop];omega
theorem sndB_length(ps:List Byte)(k:Nat)(h:32*k+32≤ps.length):(sndB ps k).length=16:=by rw [sndB,List.length_take,List.length_drop];omega
theorem glue_take(ps:List Byte):∀n,32*n≤ps.length→glueF (fun k=>fstB ps k++sndB ps k) n=ps.take (32*n)
 |0,_=>rfl
 | n +1,h=>by
   have e:fstB ps n++sndB ps n=(ps.drop (32*n)).take 32:=by
     rw [fstB_of,sndB_of,List.take_append_drop]
   rw [glueF,glue_take ps n (by omega),e,show 32*(n+1)=32*n+32 by omega,List.take_add]
theorem glue_all(ps:List Byte)(n:Nat)(h:ps.length=32*n):glueF (fun k=>fstB ps k++sndB ps k) n=ps:=by
 rw [glue_take ps n (by omega),List.take_of_length_le (by omega)]
section
variable (F:Int→Int→List Byte→List Byte)
def wF(ps:List Byte)(k:Nat):List Byte:=bothL (fstB ps k) (F 1 ((k:Int)+1) (sndB ps k))
def xF(ps:List Byte)(k:Nat):List Byte:=bothL (sndB ps k) (F 0 0 (wF F ps k))
def wxF(ps:List Byte)(k:Nat):List Byte:=wF F ps k++xF F ps k
def yF(z qs:List Byte)(k:Nat):List Byte:=bothL (fstB qs k) (F 2 ((k:Int)+1) z)
def vF(z qs:List Byte)(k:Nat):List Byte:=bothL (sndB qs k) (F 2 ((k:Int)+1) z)
def secF(z qs:List Byte)(k:Nat):List Byte:=bothL (yF F z qs k) (F 0 0 (vF F z qs k))
def firF(z qs:List Byte)(k:Nat):List Byte:=bothL (vF F z qs k) (F 1 ((k:Int)+1) (secF F z qs k))
def fsF(z qs:List Byte)(k:Nat):List Byte:=firF F z qs k++secF F z qs k
theorem wF_length(ps:List Byte)(k:Nat):(wF F ps k).length=16:=bothL_length _ _
theorem xF_length(ps:List Byte)(k:Nat):(xF F ps k).length=16:=bothL_length _ _
theorem yF_length(z qs:List Byte)(k:Nat):(yF F z qs k).length=16:=bothL_length _ _
theorem vF_length(z qs:List Byte)(k:Nat):(vF F z qs k).length=16:=bothL_length _ _
theorem secF_length(z qs:List Byte)(k:Nat):(secF F z qs k).length=16:=bothL_length _ _
theorem firF_length(z qs:List Byte)(k:Nat):(firF F z qs k).length=16:=bothL_length _ _
theorem wxF_length(ps:List Byte)(k:Nat):(wxF F ps k).length=32:=by rw [wxF,List.length_append,wF_length,xF_length]
theorem fsF_length(z qs:List Byte)(k:Nat):(fsF F z qs k).length=32:=by rw [fsF,List.length_append,firF_length,secF_length]
def tailL(u v:List Byte):List Byte:=
 if u.length=0 then zer 16 else if u.length=16 then bothL (F 0 4 u) (F 0 5 (blk (v++[128#8])))else F 0 4 (blk (u++[128#8]))
theorem tailL_length(hF:∀j m x,(F j m x).length=16)(u v:List Byte):(tailL F u v).length=16:=by
 unfold tailL
 split
 · exact zer_length
 · split
   · exact bothL_length _ _
   · exact hF _ _ _
end
theorem app16 {a b:List Byte}(ha:a.length=16):(a++b).take 16=a∧(a++b).drop 16=b:=by
 constructor
 · rw [List.take_append_of_le_length (by omega),List.take_of_length_le (by omega)]
 · rw [List.drop_append_of_le_length (by omega),List.drop_eq_nil_of_le (by omega),List.nil_append]
section
variable (F:Int→Int→List Byte→List Byte)
theorem fst_fs(z qs:List Byte)(k n:Nat)(h:k<n):fstB (glueF (fsF F z qs) n) k=firF F z qs k:=by
 rw [fst_glue _ (fsF_length F z qs) k n h,fsF,(app16 (firF_length F z qs k)).1]
theorem snd_fs(z qs:List Byte)(k n:Nat)(h:k<n):sndB (glueF (fsF F z qs) n) k=secF F z qs k:=by
 rw [snd_glue _ (fsF_length F z qs) k n h,fsF,(app16 (firF_length F z qs k)).2]
theorem fst_wx(ps:List Byte)(k n:Nat)(h:k<n):fstB (glueF (wxF F ps) n) k=wF F ps k:=by
 rw [fst_glue _ (wxF_length F ps) k n h,wxF,(app16 (wF_length F ps k)).1]
theorem snd_wx(ps:List Byte)(k n:Nat)(h:k<n):sndB (glueF (wxF F ps) n) k=xF F ps k:=by
 rw [snd_glue _ (wxF_length F ps) k n h,wxF,(app16 (wF_length F ps k)).2]
theorem w_back(z qs:List Byte)(k n:Nat)(h:k<n):wF F (glueF (fsF F z qs) n) k=vF F z qs k:=by
 rw [wF,fst_fs F z qs k n h,snd_fs F z qs k n h,firF,both_back _ _ (vF_length F z qs k)]
theorem x_back(z qs:List Byte)(k n:Nat)(h:k<n):xF F (glueF (fsF F z qs) n) k=yF F z qs k:=by
 rw [xF,w_back F z qs k n h,snd_fs F z qs k n h,secF,both_back _ _ (yF_length F z qs k)]
section
variable (z ps:List Byte) (n:Nat)
def oneP:List Byte:=glueF (wxF F ps) n
def twoP:List Byte:=glueF (fsF F z (oneP F ps n)) n
theorem oneP_length:(oneP F ps n).length=32*n:=glueF_length _ (wxF_length F ps) n
theorem twoP_length:(twoP F z ps n).length=32*n:=glueF_length _ (fsF_length F z _) n
theorem y_back(k:Nat)(h:k<n):yF F z (oneP F (twoP F z ps n) n) k=xF F ps k:=by
 rw [yF,oneP,fst_wx F _ k n h,twoP,w_back F z _ k n h,vF,both_back _ _ (by rw [oneP,snd_wx F ps k n h];exact xF_length F ps k),oneP,snd_wx F ps k n h]
theorem v_back(k:Nat)(h:k<n):vF F z (oneP F (twoP F z ps n) n) k=wF F ps k:=by
 rw [vF,oneP,snd_wx F _ k n h,twoP,x_back F z _ k n h,yF,both_back _ _ (by rw [oneP,fst_wx F ps k n h];exact wF_length F ps k),oneP,fst_wx F ps k n h]
theorem sec_back(k:Nat)(h:k<n)(hl:ps.length=32*n):secF F z (oneP F (twoP F z ps n) n) k=sndB ps k:=by
 rw [secF,y_back F z ps n k h,v_back F z ps n k h,xF,both_back _ _ (sndB_length ps k (by omega))]
theorem fir_back(k:Nat)(h:k<n)(hl:ps.length=32*n):firF F z (oneP F (twoP F z ps n) n) k=fstB ps k:=by
 rw [firF,sec_back F z ps n k h hl,v_back F z ps n k h,wF,both_back _ _ (fstB_length ps k (by omega))]
theorem twoP_back(hl:ps.length=32*n):twoP F z (twoP F z ps n) n=ps:=by
 conv=>lhs;rw [twoP]
 rw [glueF_ext _ (fun k=>fstB ps k++sndB ps k) n fun k hk=>by rw [fsF,fir_back F z ps n k hk hl,sec_back F z ps n k hk hl]]
 exact glue_all ps n hl
theorem sumX_back:sumG (xF F (twoP F z ps n)) n=sumG (yF F z (oneP F ps n)) n:=sumG_ext _ _ n fun k hk=>by rw [twoP,x_back F z _ k n hk]
theorem sumY_back:sumG (yF F z (oneP F (twoP F z ps n) n)) n=sumG (xF F ps) n:=sumG_ext _ _ n fun k hk=>y_back F z ps n k hk
end
end
structure CoreT where
 ps:List Byte
 u:List Byte
 v:List Byte
 x:List Byte
 y:List Byte
structure CoreT.Ok (c:CoreT) (n:Nat):Prop where
 ps:c.ps.length=32*n
 u:c.u.length≤16
 v:c.v.length≤15
 uv:c.u.length<16→c.v=[]
 x:c.x.length=16
 y:c.y.length=16
section
variable (F:Int→Int→List Byte→List Byte) (h:List Byte) (a b:Int) (n:Nat) (c:CoreT)
def sT:List Byte:=bothL (bothL (bothL c.x h) (bothL (sumG (xF F c.ps) n) (tailL F c.u c.v))) (F 0 a c.y)
def tT:List Byte:=bothL c.y (F (-1) a (sT F h a n c))
def zT:List Byte:=bothL (sT F h a n c) (tT F h a n c)
def uT:List Byte:=xorL c.u (F (-1) 4 (zT F h a n c))
def vT:List Byte:=xorL c.v (F (-1) 5 (zT F h a n c))
def qT:List Byte:=bothL (sumG (yF F (zT F h a n c) (oneP F c.ps n)) n) (tailL F (uT F h a n c) (vT F h a n c))
def yT:List Byte:=bothL (sT F h a n c) (F (-1) b (tT F h a n c))
def xT:List Byte:=bothL (bothL (bothL (tT F h a n c) h) (qT F h a n c)) (F 0 b (yT F h a b n c))
def coreT:CoreT:=⟨twoP F (zT F h a n c) c.ps n,uT F h a n c,vT F h a n c,xT F h a b n c,yT F h a b n c⟩
end
theorem xorq(a b:Byte):a^^^(a^^^b)=b:=by rw [←BitVec.xor_assoc,BitVec.xor_self,BitVec.zero_xor]
theorem six_back(t h q e:List Byte)(ht:t.length=16):bothL (bothL (bothL (bothL (bothL (bothL t h) q) e) h) q) e=t:=nth_ext (by rw [bothL_length,ht]) fun i hi=>by
 rw [bothL_length]at hi
 simp only [bothL_nth _ _ _ hi]
 have lc:∀a b c:Byte,a^^^(b^^^c)=b^^^(a^^^c):=fun a b c=>by rw [←BitVec.xor_assoc,BitVec.xor_comm a b,BitVec.xor_assoc]
 generalize nth t i=T
 generalize nth h i=H
 generalize nth q i=Q
 generalize nth e i=E
 rw [BitVec.xor_assoc,BitVec.xor_assoc,BitVec.xor_assoc,BitVec.xor_assoc,BitVec.xor_assoc,lc E H,lc Q H,xorq,lc E Q,xorq,BitVec.xor_self,BitVec.xor_zero]
section
variable (F:Int→Int→List Byte→List Byte) (hF:∀j m x,(F j m x).length=16) (h:List Byte) (a b:Int) (n:Nat) (c:CoreT)
theorem sT_length:(sT F h a n c).length=16:=bothL_length _ _
theorem tT_length:(tT F h a n c).length=16:=bothL_length _ _
include hF in
theorem uT_length(ok:c.Ok n):(uT F h a n c).length=c.u.length:=by rw [uT,xorL_length,hF];have:=ok.u;omega
include hF in
theorem vT_length(ok:c.Ok n):(vT F h a n c).length=c.v.length:=by rw [vT,xorL_length,hF];have:=ok.v;omega
include hF in
theorem coreT_ok(ok:c.Ok n):(coreT F h a b n c).Ok n where
 ps:=twoP_length F _ _ n
 u:=by show(uT F h a n c).length≤16;rw [uT_length F hF h a n c ok];exact ok.u
 v:=by show(vT F h a n c).length≤15;rw [vT_length F hF h a n c ok];exact ok.v
 uv:=fun hh=>by
   have h1:(uT F h a n c).length<16:=hh
   rw [uT_length F hF h a n c ok]at h1
   show vT F h a n c=[]
   exact List.length_eq_zero_iff.1 (by rw [vT_length F hF h a n c ok,ok.uv h1];rfl)
 x:=bothL_length _ _
 y:=bothL_length _ _
theorem sT_back:sT F h b n (coreT F h a b n c)=tT F h a n c:=by
 have e:bothL (sumG (xF F (coreT F h a b n c).ps) n) (tailL F (coreT F h a b n c).u (coreT F h a b n c).v)=qT F h a n c:=by
   show bothL (sumG (xF F (twoP F (zT F h a n c) c.ps n)) n) (tailL F (uT F h a n c) (vT F h a n c))=_
   rw [sumX_back];rfl
 rw [sT,e]
 show bothL (bothL (bothL (xT F h a b n c) h) (qT F h a n c)) (F 0 b (yT F h a b n c))=_
 rw [xT]
 exact six_back _ h _ _ (tT_length F h a n c)
theorem tT_back:tT F h b n (coreT F h a b n c)=sT F h a n c:=by
 rw [tT,sT_back]
 show bothL (yT F h a b n c) _=_
 rw [yT,both_back _ _ (sT_length F h a n c)]
theorem zT_back:zT F h b n (coreT F h a b n c)=zT F h a n c:=by rw [zT,sT_back,tT_back,both_comm];rfl
include hF in
theorem coreT_back(ok:c.Ok n):coreT F h b a n (coreT F h a b n c)=c:=by
 have hz:=zT_back F h a b n c
 have hu:uT F h b n (coreT F h a b n c)=c.u:=by
   rw [uT,hz]
   exact xor_twice c.u _ (by rw [hF];exact ok.u)
 have hv:vT F h b n (coreT F h a b n c)=c.v:=by
   rw [vT,hz]
   exact xor_twice c.v _ (by rw [hF];have:=ok.v;omega)
 have hy:yT F h b a n (coreT F h a b n c)=c.y:=by
   rw [yT,sT_back,tT_back,tT,both_back _ _ ok.y]
 have hq:qT F h b n (coreT F h a b n c)=bothL (sumG (xF F c.ps) n) (tailL F c.u c.v):=by
   rw [qT,hz,hu,hv]
   show bothL (sumG (yF F (zT F h a n c) (oneP F (twoP F (zT F h a n c) c.ps n) n)) n) _=_
   rw [sumY_back]
 have hx:xT F h b a n (coreT F h a b n c)=c.x:=by
   rw [xT,tT_back,hq,hy,sT]
   exact six_back _ h _ _ ok.x
 have hp:twoP F (zT F h b n (coreT F h a b n c)) (coreT F h a b n c).ps n=c.ps:=by
   rw [hz]
   exact twoP_back F _ c.ps n ok.ps
 rw [coreT,hp,hu,hv,hx,hy]
end
def joinT(c:CoreT):List Byte:=c.ps++(c.u++(c.v++(c.x++c.y)))
def restM(m:List Byte):List Byte:=(m.drop (32*((m.length-32)/32))).take (m.length-32-32*((m.length-32)/32))
def splitT(m:List Byte):CoreT:=⟨m.take (32*((m.length-32)/32)),(restM m).take 16,(restM m).drop 16,(m.drop (m.length-32)).take 16,m.drop (m.length-16)⟩
theorem restM_length(m:List Byte):(restM m).length=m.length-32-32*((m.length-32)/32):=by rw [restM,List.length_take,List.length_drop];omega
theorem splitT_ok(m:List Byte)(h:32≤m.length):(splitT m).Ok ((m.length-32)/32):=by
 have hr:=restM_length m
 constructor
 · show(m.take _).length=_;rw [List.length_take];omega
 · show((restM m).take 16).length≤16;rw [List.length_take];omega
 · show((restM m).drop 16).length≤15;rw [List.length_drop];omega
 · intro h1
   have h2:((restM m).take 16).length<16:=h1
   rw [List.length_take]at h2
   exact List.drop_eq_nil_of_le (by omega)
 · show((m.drop _).take 16).length=16;rw [List.length_take,List.length_drop];omega
 · show(m.drop _).length=16;rw [List.length_drop];omega
theorem join_split(m:List Byte)(h:32≤m.length):joinT (splitT m)=m:=by
 show m.take _++((restM m).take 16++((restM m).drop 16++((m.drop (m.length-32)).take 16++m.drop (m.length-16))))=m
 have e1:(m.drop (m.length-32)).take 16++m.drop (m.length-16)=m.drop (m.length-32):=by
   rw [show m.length-16=m.length-32+16 by omega,←List.drop_drop,List.take_append_drop]
 have e2:restM m++m.drop (m.length-32)=m.drop (32*((m.length-32)/32)):=by
   rw [restM]
   conv=>rhs;rw [←List.take_append_drop (m.length-32-32*((m.length-32)/32)) (m.drop (32*((m.length-32)/32)))]
   rw [List.drop_drop]
   congr 2
   omega
 rw [e1,←List.append_assoc ((restM m).take 16),List.take_append_drop,e2,List.take_append_drop]
theorem join_length(c:CoreT)(n:Nat)(ok:c.Ok n):(joinT c).length=32*n+(c.u.length+c.v.length)+32:=by
 simp only [joinT,List.length_append,ok.ps,ok.x,ok.y];omega
theorem joinT_n(c:CoreT)(n:Nat)(ok:c.Ok n):((joinT c).length-32)/32=n:=by
 rw [join_length c n ok]
 have:=ok.u;have:=ok.v
 omega
theorem dropA(a b:List Byte)(n:Nat)(h:a.length=n):(a++b).drop n=b:=by
 subst h;exact List.drop_left
theorem takeA(a b:List Byte)(n:Nat)(h:a.length=n):(a++b).take n=a:=by
 subst h;exact List.take_left
theorem split_join(c:CoreT)(n:Nat)(ok:c.Ok n):splitT (joinT c)=c:=by
 have hl:=join_length c n ok
 have hn:=joinT_n c n ok
 have hr:restM (joinT c)=c.u++c.v:=by
   rw [restM,hn,hl]
   rw [show joinT c=c.ps++(c.u++(c.v++(c.x++c.y)))from rfl,dropA _ _ _ ok.ps,←List.append_assoc]
   exact takeA _ _ _ (by rw [List.length_append];omega)
 have e1:(restM (joinT c)).take 16=c.u:=by
   rw [hr]
   by_cases h:c.u.length<16
   · rw [ok.uv h,List.append_nil,List.take_of_length_le (by omega)]
   · exact takeA _ _ _ (by have:=ok.u;omega)
 have e2:(restM (joinT c)).drop 16=c.v:=by
   rw [hr]
   by_cases h:c.u.length<16
   · rw [ok.uv h,List.append_nil,List.drop_eq_nil_of_le (by omega)]
   · exact dropA _ _ _ (by have:=ok.u;omega)
 have e3:(joinT c).take (32*(((joinT c).length-32)/32))=c.ps:=by rw [hn];exact takeA _ _ _ ok.ps
 have g:joinT c=((c.ps++(c.u++c.v))++c.x)++c.y:=by simp [joinT]
 have e4:((joinT c).drop ((joinT c).length-32)).take 16=c.x:=by
   rw [hl,g,List.append_assoc _ c.x c.y,dropA _ _ _ (by simp only [List.length_append,ok.ps];omega),takeA _ _ _ ok.x]
 have e5:(joinT c).drop ((joinT c).length-16)=c.y:=by
   rw [hl,g,dropA _ _ _ (by simp only [List.length_append,ok.ps,ok.x];omega)]
 rw [splitT,e1,e2,e3,e4,e5]
def coreL(F:Int→Int→List Byte→List Byte)(h:List Byte)(a b:Int)(m:List Byte):List Byte:=joinT (coreT F h a b ((m.length-32)/32) (splitT m))
section
variable (F:Int→Int→List Byte→List Byte) (hF:∀j m x,(F j m x).length=16) (h:List Byte) (a b:Int)
include hF in
theorem coreL_length(m:List Byte)(hm:32≤m.length):(coreL F h a b m).length=m.length:=by
 have ok:=splitT_ok m hm
 have o2:=coreT_ok F hF h a b _ _ ok
 have h1:=join_length _ _ o2
 have h2:=join_length _ _ ok
 rw [join_split m hm]at h2
 rw [coreL,h1]
 show 32*_+((uT F h a _ (splitT m)).length+(vT F h a _ (splitT m)).length)+32=_
 rw [uT_length F hF h a _ _ ok,vT_length F hF h a _ _ ok,←h2]
include hF in
theorem coreL_back(m:List Byte)(hm:32≤m.length):coreL F h b a (coreL F h a b m)=m:=by
 have ok:=splitT_ok m hm
 have o2:=coreT_ok F hF h a b _ _ ok
 have hl:=coreL_length F hF h a b m hm
 conv=>lhs;rw [coreL]
 rw [hl]
 conv=>lhs;rw [coreL,split_join _ _ o2,coreT_back F hF h a b _ _ ok]
 exact join_split m hm
end
def nibL(b:List Byte)(k:Nat):Byte:=(nth b (k/2)>>>(4*(1-k%2)))&&&15#8
def halvesL(b:List Byte)(s n:Nat):List Byte:=tab n fun i=>nibL b (s+i)
def joinN(hs:List Byte):List Byte:=tab ((hs.length+1)/2) fun q=>((nth hs (2*q)&&&15#8)<<<4)|||(nth hs (2*q+1)&&&15#8)
theorem halvesL_length(b:List Byte)(s n:Nat):(halvesL b s n).length=n:=tab_length
theorem joinN_length(hs:List Byte):(joinN hs).length=(hs.length+1)/2:=tab_length
theorem lo_nib:∀x:Byte,∃i:Fin 16,x&&&15#8=BitVec.ofNat 8 i.val:=by decide+kernel
theorem nib_hi(x y:Byte):((((x&&&15#8)<<<4)|||(y&&&15#8))>>>4)&&&15#8=x&&&15#8:=by
 have key:∀i j:Fin 16,(((BitVec.ofNat 8 i.val<<<4)|||BitVec.ofNat 8 j.val)>>>4)&&&15#8=BitVec.ofNat 8 i.val:=by decide+kernel
 obtain⟨i,hi⟩:=lo_nib x
 obtain⟨j,hj⟩:=lo_nib y
 rw [hi,hj];exact key i j
theorem nib_lo(x y:Byte):(((x&&&15#8)<<<4)|||(y&&&15#8))&&&15#8=y&&&15#8:=by
 have key:∀i j:Fin 16,((BitVec.ofNat 8 i.val<<<4)|||BitVec.ofNat 8 j.val)&&&15#8=BitVec.ofNat 8 j.val:=by decide+kernel
 obtain⟨i,hi⟩:=lo_nib x
 obtain⟨j,hj⟩:=lo_nib y
 rw [hi,hj];exact key i j
theorem hi_bit:∀y:Byte,y&&&128#8=0#8∨y&&&128#8=128#8:=by decide+kernel
theorem nib_byte:∀x:Byte,((((x>>>4)&&&15#8)&&&15#8)<<<4)|||((x&&&15#8)&&&15#8)=x:=by decide+kernel
theorem nib_two:∀x:Byte,(x&&&15#8)&&&15#8=x&&&15#8:=by decide+kernel
theorem nib_join(hs:List Byte)(i:Nat)(hi:i<hs.length):nibL (joinN hs) i=nth hs i&&&15#8:=by
 rw [nibL,joinN,nth_tab (by omega)]
 by_cases e:i%2=0
 · rw [e,show 2*(i/2)=i by omega]
   exact nib_hi _ _
 · have e1:i%2=1:=by omega
   have e2:2*(i/2)+1=i:=by omega
   rw [e1,e2,show 4*(1-1)=0 from rfl,BitVec.ushiftRight_zero]
   exact nib_lo _ _
theorem join_halves(m:List Byte):joinN (halvesL m 0 (2*m.length))=m:=nth_ext (by rw [joinN_length,halvesL_length];omega) fun i hi=>by
 rw [joinN_length,halvesL_length]at hi
 rw [joinN,halvesL_length,nth_tab hi,halvesL,nth_tab (by omega),nth_tab (by omega),nibL,nibL]
 rw [show(0+2*i)/2=i by omega,show(0+(2*i+1))/2=i by omega,show(0+2*i)%2=0 by omega,show(0+(2*i+1))%2=1 by omega]
 show(((nth m i>>>4)&&&15#8&&&15#8)<<<4)|||(((nth m i>>>0)&&&15#8)&&&15#8)=_
 rw [BitVec.ushiftRight_zero]
 exact nib_byte _
def NibOk(l:List Byte):Prop:=∀i,nth l i&&&15#8=nth l i
theorem halvesL_ok(b:List Byte)(s n:Nat):NibOk (halvesL b s n):=fun i=>by
 by_cases h:i<n
 · rw [halvesL,nth_tab h,nibL,nib_two]
 · rw [nth_ge (by rw [halvesL_length];omega)];decide
theorem xorL_nth(a b:List Byte)(i:Nat)(h:i<(xorL a b).length):nth (xorL a b) i=nth a i^^^nth b i:=xorL_getD a b i h
theorem and_xor15(a b:Byte):(a^^^b)&&&15#8=(a&&&15#8)^^^(b&&&15#8):=by
 apply BitVec.eq_of_getLsbD_eq
 intro i _
 simp only [BitVec.getLsbD_and,BitVec.getLsbD_xor,Bool.and_xor_distrib_right]
theorem xorL_ok {a b:List Byte}(ha:NibOk a)(hb:NibOk b):NibOk (xorL a b):=fun i=>by
 by_cases h:i<(xorL a b).length
 · rw [xorL_nth a b i h,and_xor15,ha,hb]
 · rw [nth_ge (by omega)];decide
theorem halves_add(m:List Byte)(n:Nat):halvesL m 0 n++halvesL m n n=halvesL m 0 (2*n):=nth_ext (by simp only [List.length_append,halvesL_length];omega) fun i hi=>by
 simp only [List.length_append,halvesL_length]at hi
 by_cases h:i<n
 · have e:nth (halvesL m 0 n++halvesL m n n) i=nth (halvesL m 0 n) i:=by
     simp only [nth,List.getD_eq_getElem?_getD]
     rw [List.getElem?_append_left (by rw [halvesL_length];exact h)]
   rw [e,halvesL,halvesL,nth_tab h,nth_tab (by omega)]
 · have e:nth (halvesL m 0 n++halvesL m n n) i=nth (halvesL m n n) (i-n):=by
     simp only [nth,List.getD_eq_getElem?_getD]
     rw [List.getElem?_append_right (by rw [halvesL_length];omega),halvesL_length]
   rw [e,halvesL,halvesL,nth_tab (by omega),nth_tab (by omega)]
   congr 1;omega
theorem halves_all(m:List Byte):joinN (halvesL m 0 m.length++halvesL m m.length m.length)=m:=by rw [halves_add,join_halves]
theorem halves_left(l r:List Byte)(hl:NibOk l)(n:Nat)(ll:l.length=n):halvesL (joinN (l++r)) 0 n=l:=nth_ext (by rw [halvesL_length,ll]) fun i hi=>by
 rw [halvesL_length]at hi
 rw [halvesL,nth_tab hi,Nat.zero_add,nib_join _ _ (by rw [List.length_append];omega)]
 have e:nth (l++r) i=nth l i:=by
   simp only [nth,List.getD_eq_getElem?_getD]
   rw [List.getElem?_append_left (by omega)]
 rw [e,hl]
theorem halves_right(l r:List Byte)(hr:NibOk r)(n:Nat)(ll:l.length=n)(lr:r.length=n):halvesL (joinN (l++r)) n n=r:=nth_ext (by rw [halvesL_length,lr]) fun i hi=>by
 rw [halvesL_length]at hi
 rw [halvesL,nth_tab hi,nib_join _ _ (by rw [List.length_append];omega)]
 have e:nth (l++r) (n+i)=nth r i:=by
   simp only [nth,List.getD_eq_getElem?_getD]
   rw [List.getElem?_append_right (by omega),ll,Nat.add_sub_cancel_left]
 rw [e,hr]
def roundsN(n:Nat):Nat:=if n<1∨31<n then 0 else if n=1 then 24 else if n=2 then 16 else if n<16 then 10 else 8
def cntB(n:Nat):List Byte:=tab 16 fun q=>if 8≤q then nth (putL (BitVec.ofNat 64 n) 8) (15-q)else 0#8
theorem cntB_length(n:Nat):(cntB n).length=16:=tab_length
section
variable (F:Int→Int→List Byte→List Byte) (h:List Byte)
def stepB(j:Nat)(half:List Byte):List Byte:=bothL (bothL (blk (joinN (half++[8#8]))) h) (cntB j)
def stepL(i:Int)(j:Nat)(half:List Byte):List Byte:=halvesL (F 0 i (stepB h j half)) 0 half.length
theorem stepL_length(i:Int)(j:Nat)(half:List Byte):(stepL F h i j half).length=half.length:=halvesL_length _ _ _
theorem stepL_ok(i:Int)(j:Nat)(half:List Byte):NibOk (stepL F h i j half):=halvesL_ok _ _ _
def topB(m:List Byte):List Byte:=bothL (setN (blk m) 0 (nth (blk m) 0|||128#8)) h
def flipL(m:List Byte):List Byte:=if m.length=0∨16≤m.length then m else setN m 0 (nth m 0^^^(nth (F 0 3 (topB h m)) 0&&&128#8))
theorem flipL_length(m:List Byte):(flipL F h m).length=m.length:=by
 unfold flipL;split
 · rfl
 · exact List.length_set
theorem top_or:∀x y:Byte,(x^^^(y&&&128#8))|||128#8=x|||128#8:=by
 have key:∀x:Byte,(x^^^0#8)|||128#8=x|||128#8∧(x^^^128#8)|||128#8=x|||128#8:=by decide+kernel
 intro x y
 rcases hi_bit y with h|h
 · rw [h];exact(key x).1
 · rw [h];exact(key x).2
theorem flip_top(m:List Byte)(x:Byte)(h0:m.length≠0):topB h (setN m 0 (nth m 0^^^(x&&&128#8)))=topB h m:=by
 have e:setN (blk (setN m 0 (nth m 0^^^(x&&&128#8)))) 0 (nth (blk (setN m 0 (nth m 0^^^(x&&&128#8)))) 0|||128#8)=setN (blk m) 0 (nth (blk m) 0|||128#8):=nth_ext (by rw [setN_length,setN_length,blk_length,blk_length]) fun i hi=>by
   rw [setN_length,blk_length]at hi
   rw [nth_set (by rw [blk_length];exact hi),nth_set (by rw [blk_length];exact hi)]
   by_cases e:0=i
   · rw [if_pos e,if_pos e,blk_nth _ _ (by omega),blk_nth _ _ (by omega),nth_set (by omega),if_pos rfl]
     exact top_or _ _
   · rw [if_neg e,if_neg e,blk_nth _ _ hi,blk_nth _ _ hi]
     by_cases hl:i<m.length
     · rw [nth_set hl,if_neg e]
     · rw [nth_ge (by rw [setN_length];omega),nth_ge (by omega)]
 rw [topB,e];rfl
theorem flipL_twice(m:List Byte):flipL F h (flipL F h m)=m:=by
 by_cases c:m.length=0∨16≤m.length
 · have e:flipL F h m=m:=if_pos c
   rw [e,e]
 · have hl:=flipL_length F h m
   have e:flipL F h m=setN m 0 (nth m 0^^^(nth (F 0 3 (topB h m)) 0&&&128#8)):=if_neg c
   conv=>lhs;rw [flipL]
   rw [hl,if_neg c,e,flip_top h m _ (by omega)]
   generalize nth (F 0 3 (topB h m)) 0&&&128#8=x
   refine nth_ext (by rw [setN_length,setN_length]) fun i hi=> ?_
   rw [setN_length,setN_length]at hi
   rw [nth_set (by rw [setN_length];exact hi),nth_set (by omega),if_pos rfl]
   by_cases e:0=i
   · subst e;rw [if_pos rfl,BitVec.xor_assoc,BitVec.xor_self,BitVec.xor_zero]
   · rw [if_neg e,nth_set (by omega),if_neg e]
end
def rndT(S:Nat→List Byte→List Byte)(j:Nat)(p:List Byte×List Byte):List Byte×List Byte:=(p.2,xorL p.1 (S j p.2))
def rndsT(S:Nat→List Byte→List Byte)(J:Nat→Nat)(p:List Byte×List Byte):Nat→List Byte×List Byte
 |0=>p
 |k+1=>rndT S (J k) (rndsT S J p k)
structure TwoN (n:Nat) (p:List Byte×List Byte):Prop where
 l:p.1.length=n
 r:p.2.length=n
 lo:NibOk p.1
 ro:NibOk p.2
section
variable (S:Nat→List Byte→List Byte) (hS:∀j x,(S j x).length=x.length) (hO:∀j x,NibOk (S j x)) (J:Nat→Nat) (n:Nat) (p:List Byte×List Byte)
include hS hO in
theorem rndsT_two(hp:TwoN n p):∀k,TwoN n (rndsT S J p k)
 |0=>hp
 | k+1=>by
   have h:=rndsT_two hp k
   exact⟨h.r,by show(xorL _ _).length=n;rw [xorL_length,hS,h.l,h.r,Nat.min_self],h.ro,xorL_ok h.lo (hO _ _)⟩
theorem rndsT_ext(I:Nat→Nat):∀k,(∀i,i<k→I i=J i)→rndsT S I p k=rndsT S J p k
 |0,_=>rfl
 |k+1,h=>by rw [rndsT,rndsT,rndsT_ext I k fun i hi=>h i (by omega),h k (by omega)]
def swapT(p:List Byte×List Byte):List Byte×List Byte:=(p.2,p.1)
include hS hO in
theorem rndsT_back(R:Nat)(hp:TwoN n p):∀k,k≤R→rndsT S (fun i=>J (R-1-i)) (swapT (rndsT S J p R)) k=swapT (rndsT S J p (R-k))
 |0,_=>rfl
 | k+1,h=>by
   have hq:=rndsT_two S hS hO J n p hp (R-(k+1))
   rw [rndsT,rndsT_back R hp k (by omega),show R-k=(R-(k+1))+1 by omega,rndsT,show R-1-k=R-(k+1)by omega]
   generalize rndsT S J p (R-(k+1))=q at*
   show(q.2,xorL (xorL q.1 (S _ q.2)) (S _ q.2))=(q.2,q.1)
   rw [xor_twice _ _ (by rw [hS,hq.l,hq.r];exact Nat.le_refl _)]
include hS hO in
theorem rndsT_all(R:Nat)(hp:TwoN n p):rndsT S (fun i=>J (R-1-i)) (swapT (rndsT S J p R)) R=swapT p:=by
 rw [rndsT_back S hS hO J n p R hp R (Nat.le_refl _),Nat.sub_self];rfl
end
def numN(n:Nat):Int:=if n<16 then 7 else 6
def ordN(back:Bool)(R k:Nat):Nat:=if back=true then R-1-k else k
section
variable (F:Int→Int→List Byte→List Byte) (h:List Byte)
def pairT(m:List Byte):List Byte×List Byte:=(halvesL m 0 m.length,halvesL m m.length m.length)
def midT(back:Bool)(m:List Byte):List Byte×List Byte:=rndsT (stepL F h (numN m.length)) (ordN back (roundsN m.length)) (pairT m) (roundsN m.length)
def tinyL(back:Bool)(m:List Byte):List Byte:=
 if back=true then joinN ((midT F h true (flipL F h m)).2++(midT F h true (flipL F h m)).1)
 else flipL F h (joinN ((midT F h false m).2++(midT F h false m).1))
theorem pairT_two(m:List Byte):TwoN m.length (pairT m):=⟨halvesL_length _ _ _,halvesL_length _ _ _,halvesL_ok _ _ _,halvesL_ok _ _ _⟩
theorem midT_two(back:Bool)(m:List Byte):TwoN m.length (midT F h back m):=rndsT_two _ (stepL_length F h _) (stepL_ok F h _) _ _ _ (pairT_two m) _
theorem join_two(p:List Byte×List Byte)(n:Nat)(hp:TwoN n p):(joinN (p.2++p.1)).length=n:=by
 rw [joinN_length,List.length_append,hp.l,hp.r];omega
theorem pair_join(p:List Byte×List Byte)(n:Nat)(hp:TwoN n p):pairT (joinN (p.2++p.1))=swapT p:=by
 rw [pairT,join_two p n hp,halves_left _ _ hp.ro n hp.r,halves_right _ _ hp.lo n hp.r hp.l];rfl
theorem tinyL_length(back:Bool)(m:List Byte):(tinyL F h back m).length=m.length:=by
 unfold tinyL
 split
 · rw [join_two _ _ (midT_two F h true _),flipL_length]
 · rw [flipL_length,join_two _ _ (midT_two F h false _)]
theorem midT_back(back:Bool)(m:List Byte):midT F h (!back) (joinN ((midT F h back m).2++(midT F h back m).1))=swapT (pairT m):=by
 have h2:=midT_two F h back m
 have hl:=join_two _ _ h2
 rw [midT,pair_join _ _ h2,hl,midT]
 rw [←rndsT_all (stepL F h (numN m.length)) (stepL_length F h _) (stepL_ok F h _) (ordN back (roundsN m.length)) m.length (pairT m) (roundsN m.length) (pairT_two m)]
 refine rndsT_ext _ _ _ _ _ fun i hi=> ?_
 cases back
 · show roundsN m.length-1-i=roundsN m.length-1-i;rfl
 · show i=roundsN m.length-1-(roundsN m.length-1-i);omega
theorem tinyL_back(back:Bool)(m:List Byte):tinyL F h (!back) (tinyL F h back m)=m:=by
 cases back with
 | false=>
   show joinN ((midT F h true (flipL F h (flipL F h (joinN ((midT F h false m).2++(midT F h false m).1))))).2++(midT F h true (flipL F h (flipL F h (joinN ((midT F h false m).2++(midT F h false m).1))))).1)=m
   rw [flipL_twice,show true= !false from rfl,midT_back]
   exact halves_all m
 | true=>
   show flipL F h (joinN ((midT F h false (joinN ((midT F h true (flipL F h m)).2++(midT F h true (flipL F h m)).1))).2++(midT F h false (joinN ((midT F h true (flipL F h m)).2++(midT F h true (flipL F h m)).1))).1))=m
   rw [show false= !true from rfl,midT_back]
   show flipL F h (joinN (halvesL _ 0 _++halvesL _ _ _))=m
   rw [halves_all,flipL_twice]
end
def cntG(P:List Byte)(j:Nat):List Byte:=tab 16 fun q=>if 16-j≤q then nth P (15-q)else 0#8
theorem cntG_length(P:List Byte)(j:Nat):(cntG P j).length=16:=tab_length
theorem cntG_zero(P:List Byte):cntG P 0=zer 16:=nth_ext (by rw [cntG_length,zer_length]) fun i hi=>by
 rw [cntG_length]at hi
 rw [cntG,nth_tab hi,if_neg (by omega),zer,nth_tab hi];rfl
theorem cntG_step(P:List Byte)(j:Nat)(hj:j<8):setN (cntG P j) (15-j) (nth P j)=cntG P (j+1):=nth_ext (by rw [setN_length,cntG_length,cntG_length]) fun i hi=>by
 rw [setN_length,cntG_length]at hi
 rw [nth_set (by rw [cntG_length];exact hi),cntG,cntG,nth_tab hi,nth_tab hi]
 by_cases e:15-j=i
 · rw [if_pos e,if_pos (by omega),show 15-i=j by omega]
 · rw [if_neg e]
   by_cases e2:16-j≤i
   · rw [if_pos e2,if_pos (by omega)]
   · rw [if_neg e2,if_neg (by omega)]
theorem cntG_all(n:Nat):cntG (putL (BitVec.ofNat 64 n) 8) 8=cntB n:=rfl
theorem tcounted_any(n:Nat)(hn:n≤9223372036854775807)(w0:World):Gives Tryz.prog 136 #[.int .i64 n] w0 (A8 (cntB n)):=by
 unfold Gives
 have hm:=Own.start w0
 have cp:=fun w=>putlong_any' (BitVec.ofNat 64 n) w
 rw [←natv64 (show n<18446744073709551616 by omega)]at cp
 have CP:=hid cp
 have lP:(putL (BitVec.ofNat 64 n) 8).length=8:=putL_length _ _
 have E0:=hid (cntG_zero (putL (BitVec.ofNat 64 n) 8))
 have ES:=hid (cntG_step (putL (BitVec.ofNat 64 n) 8))
 have EA:=hid (cntG_all n)
 have lC:=hid (cntG_length (putL (BitVec.ofNat 64 n) 8))
 have lR:=cntB_length n
 clear cp
 generalize putL (BitVec.ofNat 64 n) 8=P at*
 generalize cntB n=D at*
 go_enter Tryz.func136,Tryz.ntmps136
 go_wp2_with (first|(go_at_call 11;(with_reducible refine(CP.out _).mono ?_);rintro e_ w ⟨rfl,hx_⟩;replace hm:=hm.ext hx_;clear hx_)|(((with_reducible show qAl);refine zG hm ?_);clear hm;(first|(have hx_:=g1;clear hx_;(first|(have hx_:=g2;clear hx_;intro gx_)|intro g2))|intro g1);intro w hm))
 rw [←E0.out]at hm
 go_loopw [9] (fun i wr=>∃j:Nat,j≤8∧i= .int .i64 j∧Own w0 wr [⟨g2,132,(cntG P j).map v8⟩,⟨g1,132,(cntG P 0).map v8⟩]) (fun i _=>8-(intOf i).toNat)
 case atStart=>exact⟨0,by omega,rfl,by rw [E0.out]at hm⊢;exact hm⟩
 case round=>
   obtain⟨j,hj,rfl,hm⟩:=hrel
   have lj:=lC.out j
   have l0:=lC.out 0
   by_cases hjl:j<8
   · have hj1:decide ((j:Int)<8)=true:=decide_eq_true (by omega)
     have hj2:(j:Int)<8:=by omega
     obtain⟨k,hk⟩:∃k:Nat,k=15-j:=⟨_,rfl⟩
     have hk1:(15:Int)-(j:Int)=(k:Int):=by omega
     have hk2:k<16:=by omega
     have es:=ES.out j hjl
     rw [←hk]at es
     have HES:=hid es
     clear es hk
     generalize hC2:cntG P (j+1)=C2 at*
     generalize cntG P 0=C0 at*
     generalize cntG P j=C at*
     have HC2:=hid hC2
     clear hC2
     go_wp2_with (first|((with_reducible apply wq_idx (l:=P) (k:=j) Tryz.underlying40);infer_instance;exact rfl;exact rfl;exact rfl;exact lP;exact hjl)|((with_reducible show qSt);refine zD hm ?_;clear hm;intro w hm))
     go_roundw
     case rel=>
       rw [HES.out]at hm
       exact⟨j+1,by omega,by go_num,by rw [HC2.out];exact hm⟩
     case measure=>simp [intOf]<;>omega
   · obtain rfl:j=8:=by omega
     have hj1:decide (((8:Nat):Int)<8)=false:=decide_eq_false (by omega)
     rw [EA.out]at hm lj
     generalize cntG P 0=C0 at*
     go_wp2_with (first|((with_reducible show qLd);refine zB hm ?_)|((with_reducible show qSt);refine zE hm ?_;clear hm;intro w hm))
     refine rtO hm rfl rfl ⟨rfl,hm.x⟩
def roundsI(n:Int):Int:=if n<1∨31<n then 0 else if n=1 then 24 else if n=2 then 16 else if n<16 then 10 else 8
theorem rounds_any(n:Int)(w0:World):Calls Tryz.prog 111 #[.int .i64 n] w0 fun e w'=>e= .returned (.int .i64 (roundsI n))∧w'=w0:=by
 by_cases h1:n<1
 · have a1:decide (n<1)=true:=decide_eq_true h1
   have e:roundsI n=0:=if_pos (.inl h1)
   rw [e]
   go_enter Tryz.func111,Tryz.ntmps111
   go_wp2
   go_ret
   exact⟨rfl,rfl⟩
 have a1:decide (n<1)=false:=decide_eq_false h1
 by_cases h2:31<n
 · have a2:decide (31<n)=true:=decide_eq_true h2
   have e:roundsI n=0:=if_pos (.inr h2)
   rw [e]
   go_enter Tryz.func111,Tryz.ntmps111
   go_wp2
   go_ret
   exact⟨rfl,rfl⟩
 have a2:decide (31<n)=false:=decide_eq_false h2
 have e0:roundsI n=if n=1 then 24 else if n=2 then 16 else if n<16 then 10 else 8:=if_neg (by omega)
 by_cases h3:n=1
 · subst h3
   have e:roundsI 1=24:=by decide
   rw [e]
   clear h1 h2 a1 a2 e0
   go_enter Tryz.func111,Tryz.ntmps111
   go_wp2
   go_ret
   exact⟨rfl,rfl⟩
 by_cases h4:n=2
 · subst h4
   have e:roundsI 2=16:=by decide
   rw [e]
   clear h1 h2 h3 a1 a2 e0
   go_enter Tryz.func111,Tryz.ntmps111
   go_wp2
   go_ret
   exact⟨rfl,rfl⟩
 rw [if_neg h3,if_neg h4]at e0
 have a3:(n==1)=false:=by rw [beq_eq_false_iff_ne];exact h3
 have a4:(n==2)=false:=by rw [beq_eq_false_iff_ne];exact h4
 by_cases h5:n<16
 · have a5:decide (n<16)=true:=decide_eq_true h5
   rw [if_pos h5]at e0
   rw [e0]
   go_enter Tryz.func111,Tryz.ntmps111
   go_wp2
   go_ret
   exact⟨rfl,rfl⟩
 · have a5:decide (n<16)=false:=decide_eq_false h5
   rw [if_neg h5]at e0
   rw [e0]
   go_enter Tryz.func111,Tryz.ntmps111
   go_wp2
   go_ret
   exact⟨rfl,rfl⟩
theorem clone_sl(l:List Byte)(p:Option Addr)(c:Nat)(w0:World)(hl:RdB w0 p l)(hb:l.length≤70368744177000):Calls Tryz.prog 74 #[.slice p l.length c] w0 fun e w'=>∃v M,e= .returned v∧SlO M 5 1 v l.length (l.map v8)∧Own w0 w' M:=by
 have hm:=Own.start w0
 cases p with
 | none=>
   have e1:=fun c w=>eq_nil8 none 0 c w
   obtain rfl:l=[]:=by
     rcases Nat.eq_zero_or_pos l.length with h|h
     · exact List.length_eq_zero_iff.1 h
     · have:=hl.1 h;simp at this
   clear hl
   simp only [List.length_nil]
   go_enter Tryz.func74,Tryz.ntmps74
   go_wp2
   go_ret
   exact⟨_,[],rfl,SlO.nil _ _,hm⟩
 | some a=>
   have HL:=hid hl
   have FIT:=hid (show(0+l.length)*(1+1)≤140737488355328 by omega)
   have LY:=hid (show(l.map v8).length=l.length*1 by simp)
   clear hl
   have e1:=fun n c w=>eq_nil8 (some a) n c w
   go_enter Tryz.func74,Tryz.ntmps74
   go_wp2_with (first|((with_reducible apply wq_bs0 bs0_b hm);exact rfl;clear hm;intro gz w hm)|((with_reducible show wpList _ _ _ (Oper.mk _ (Op.call _) _ _ _ _::_) _ _);refine wplO_app (M:=[⟨gz,5,[]⟩]) (R:=[]) (ds:=l.map v8) hm (slo_room0 gz _ 1) rfl rfl rfl rfl Tryz.underlying22 LY.out (cellsB (HL.out.ext hm.x)) (one_map _) FIT.out ?_;clear hm;intro v1 w M1 hm hs1;obtain⟨p_v1,c_v1,rfl⟩:=hs1.form;simp only [Nat.zero_add,List.nil_append]at hs1⊢))
   go_ret
   exact⟨_,M1,rfl,hs1,by simpa using hm⟩
end Go.Proofs.YtneacgpmjlocjaaGreatDoor
