/-
  Texts of the program, walked, and plain ones. Conditions: those written in each theorem.
-/
import Derived.Test.YtneacgpmjlocjaaGreatDoorZTopWrapped0
import Derived.Test.YtneacgpmjlocjaaGreatDoorZTopWrapped20
import Derived.Test.YtneacgpmjlocjaaGreatDoorZTopWrapped9
import Derived.Test.YtneacgpmjlocjaaGreatDoorZTopWrapped4
import Derived.Test.YtneacgpmjlocjaaGreatDoorZTopWrapped7
set_option linter.unusedSimpArgs false
set_option linter.unusedVariables false
set_option maxHeartbeats 16000000
open Go.Lib (hid)
namespace Go.Proofs.YtneacgpmjlocjaaGreatDoor
open Go Go.RowKit
set_option maxRecDepth 100000
instance elemS:Elem Tryz.prog 22 1 24:=Elem.of (by kernel_rfl) (by omega)
theorem cell1_sv {w0 w:World}{L:List Blk}{g:Nat}{t:TypeId}{v:Value}(hm:Own w0 w L)(h:Has L ⟨g,t,[v]⟩):∀(j:Nat)(u:Value),[v][j]? =some u→∃a,(some ⟨g,0,none⟩:Option Addr)=some a∧w.cell? (a.add j)=some u:=by
 intro j u hj
 refine⟨_,rfl, ?_⟩
 have hr:=hm.row h
 match j,hj with
 |0,hj=>cases hj;rw [show(⟨g,0,none⟩:Addr).add 0=⟨g,0,none⟩from rfl,row_cell hr 0];rfl
def RdC(w:World)(cs:List Value)(ls:List (List Byte)):Prop:=cs.length=ls.length∧∀i,i<ls.length→∃(q:Option Addr)(c:Nat),cs[i]? =some (.slice q (ls.getD i []).length c)∧RdB w q (ls.getD i [])∧(ls.getD i []).length≤c∧(ls.getD i []).length≤maxLen
theorem RdC.snoc {w:World}{cs:List Value}{ls:List (List Byte)}{b:List Byte}{q:Option Addr}{d:Nat}(h:RdC w cs ls)(hb:RdB w q b)(hd:b.length≤d)(hl:b.length≤maxLen):RdC w (cs++[.slice q b.length d]) (ls++[b]):=by
 refine⟨by simp [h.1],fun i hi=> ?_⟩
 rw [List.length_append]at hi
 by_cases hlt:i<ls.length
 · obtain⟨q1,c1,h1,h2⟩:=h.2 i hlt
   have e:(ls++[b]).getD i []=ls.getD i []:=by rw [List.getD_eq_getElem?_getD,List.getElem?_append_left hlt,←List.getD_eq_getElem?_getD]
   rw [e]
   exact⟨q1,c1,by rw [List.getElem?_append_left (by rw [h.1];exact hlt)];exact h1,h2⟩
 · obtain rfl:i=ls.length:=by simp at hi;omega
   have e:(ls++[b]).getD ls.length []=b:=by rw [List.getD_eq_getElem?_getD,List.getElem?_append_right (Nat.le_refl _)];simp
   rw [e]
   exact⟨q,d,by rw [←h.1,List.getElem?_append_right (Nat.le_refl _)];simp,hb,hd,hl⟩
theorem RdC.two {w:World}{p q:Option Addr}{a b:List Byte}{c d:Nat}(ha:RdB w p a)(hb:RdB w q b)(hc:a.length≤c)(hd:b.length≤d)(la:a.length≤maxLen)(lb:b.length≤maxLen):RdC w [.slice p a.length c, .slice q b.length d] [a,b]:=
 (RdC.snoc (cs:=[.slice p a.length c]) (ls:=[a]) (RdC.snoc (cs:=[]) (ls:=[]) ⟨rfl,fun i hi=>absurd hi (Nat.not_lt_zero _)⟩ ha hc la) hb hd lb)
theorem RdC.rdR {w:World}{M:List Blk}{p:Option Addr}{n c:Nat}{t:TypeId}{cs:List Value}{ls:List (List Byte)}(hs:SlO M t 1 (.slice p n c) n cs)(hm:∀b∈M,Row w b.g b.t b.cs)(h:RdC w cs ls):RdR w p ls∧n=ls.length∧n≤c:=by
 have hl:=hs.1
 obtain⟨_,_,hv,hnc,_,h0,hcell⟩:=hs.cellsR hm
 cases hv
 have e:n=ls.length:=by rw [←h.1,hl,Nat.mul_one]
 refine⟨⟨fun hp=>h0 (by omega),fun i hi=> ?_⟩,e,hnc⟩
 obtain⟨q1,c1,h1,h2⟩:=h.2 i hi
 obtain⟨a,rfl,ha⟩:=hcell i _ h1
 exact⟨q1,c1,ha,h2⟩
theorem slo_rdR {w:World}{M:List Blk}{p:Option Addr}{n c:Nat}{e:TypeId}{l:List Byte}(h:SlO M e 1 (.slice p n c) n (l.map v8))(hm:∀b∈M,Row w b.g b.t b.cs):RdB w p l∧n≤c:=by
 have hl:=h.1
 rw [List.length_map,Nat.mul_one]at hl
 obtain⟨_,_,hv,hnc,_,h0,hcell⟩:=h.cellsR hm
 cases hv
 refine⟨⟨fun hp=>h0 (by omega),fun i hi=> ?_⟩,hnc⟩
 obtain⟨a,rfl,ha⟩:=hcell i (v8 (l.getD i 0)) (by rw [List.getElem?_map,List.getElem?_eq_getElem hi,List.getD_eq_getElem?_getD,List.getElem?_eq_getElem hi];rfl)
 exact ha
theorem take_snoc(ls:List (List Byte))(k:Nat)(h:k<ls.length):ls.take (k+1)=ls.take k++[ls.getD k []]:=by
 rw [List.take_succ_eq_append_getElem h,List.getD_eq_getElem?_getD,List.getElem?_eq_getElem h];rfl
theorem perm_midS(X Y R:List Blk):(X++(Y++R)).Perm (Y++(X++R)):=by
 rw [←List.append_assoc,←List.append_assoc];exact List.perm_append_comm.append_right R
def strS(t:Int)(nn:List Byte)(ad:List (List Byte)):List (List Byte):=[setN (zeros 16) 15 (BitVec.ofInt 8 (8*t)),nn]++ad
theorem vstr_any(t:Int)(ht:0≤t∧t≤16)(nn:List Byte)(ad:List (List Byte))(h1:nn.length≤60)(h2:ad.length≤5)(h3:∀i,(ad.getD i []).length≤60)(p:Option Addr)(c:Nat)(q:Option Addr)(d:Nat)(w0:World)(hr:RdB w0 p nn)(hs:RdR w0 q ad):
   Calls Tryz.prog 53 #[.int .i64 t, .slice p nn.length c, .slice q ad.length d] w0 fun e w'=>∃r e2 L,e= .returned (.tuple #[.slice r (strS t nn ad).length e2, .int .i64 0])∧(strS t nn ad).length≤e2∧Own w0 w' L∧∀wx,(∀b∈L,Row wx b.g b.t b.cs)→RdR wx r (strS t nn ad):=by
 have hm:=Own.start w0
 have VR:=hid (vright_any t ht)
 have T8:Hid (Value.int .u8 (8*t)=v8 (BitVec.ofInt 8 (8*t))):=hid (by
   rw [v8];congr 1
   rw [BitVec.toNat_ofInt];omega)
 have ST:Hid (strS t nn ad=[setN (zeros 16) 15 (BitVec.ofInt 8 (8*t)),nn]++ad):=hid rfl
 obtain⟨X,hX⟩:=exq (BitVec.ofInt 8 (8*t))
 rw [←hX]at T8 ST
 have lZ:(setN (zeros 16) 15 X).length=16:=by simp [setN_length,zeros]
 have CL:=hid fun w (hx:Ext w0 w)=>clone_own nn p c w (hr.ext hx) (by omega)
 have HS:=hid fun (w:World)(hx:Ext w0 w)=>hs.ext hx
 have HL:=hid h3
 obtain⟨N,hN⟩:=exq (ad.length)
 have HN:=hid hN
 obtain⟨NL,hNL⟩:=exq (nn.length)
 have HNL:=hid hNL
 rw [←hN]at h2⊢
 rw [←hNL]at CL h1⊢
 obtain⟨ht1,ht2⟩:=ht
 clear hX hN hNL hr hs h3
 go_enter Tryz.func53,Tryz.ntmps53
 go_wp2_with (first|(go_at_call 73;(with_reducible refine(VR.out _).mono ?_);rintro e_ w_ ⟨rfl,rfl⟩)|((with_reducible apply wq_mkR 16 16 hm);exact rfl;exact rfl;exact rfl;exact rfl;exact rfl;decide;decide;clear hm;intro gf w hm)|((with_reducible apply wq_stv (f:=v8) (z:=X) hm);exact rfl;infer_instance;exact rfl;(exact(by repeat (first|exact Swap.hd|assumption|apply Swap.tl|apply Swap.app)));infer_instance;exact T8.out;(simp [zeros]);clear hm;intro w hm))
 refine(CL.out _ hm.x).mono ?_
 rintro e_ w ⟨v1,M1,rfl,hm1,hs1⟩
 obtain⟨r1,d1,rfl⟩:=hs1.form
 rw [List.append_nil]at hm1
 replace hm:=hm.join hm1
 have BS:=hid (bs_s2 (some ⟨gf,0,none⟩) r1 16 16 NL d1)
 have R0:Hid (∀w',(∀b∈M1++[⟨gf,5,(setN (zeros 16) 15 X).map v8⟩],Row w' b.g b.t b.cs)→RdC w' [.slice (some ⟨gf,0,none⟩) 16 16, .slice r1 NL d1] ([setN (zeros 16) 15 X,nn]++ad.take 0)):=hid fun w' h=>by
   have q1:=slo_rdR (SlO.whole gf 5 1 16 ((setN (zeros 16) 15 X).map v8) (by rw [List.length_map,lZ]) (by decide)) (fun b hb=>h b (List.mem_append_right _ hb))
   have q2:=slo_rdR hs1 (fun b hb=>h b (List.mem_append_left _ hb))
   have:=RdC.two q1.1 q2.1 (c:=16) (d:=d1) (by rw [lZ];exact Nat.le_refl _) (by rw [←HNL.out];exact q2.2) (by rw [lZ];decide) (by rw [←HNL.out];unfold maxLen;omega)
   rw [lZ,←HNL.out]at this
   exact this
 clear hm1 hs1 lZ T8 HNL h1 CL
 obtain⟨G0,hG0⟩:=exq (M1++[⟨gf,5,(setN (zeros 16) 15 X).map v8⟩])
 have hm:Own w0 w G0:=by rw [hG0];exact hm
 rw [←hG0]at R0
 clear hG0
 go_wp2_with (first|((with_reducible apply wq_bs2g (BS.out) hm);exact rfl;exact rfl;exact rfl;clear hm;intro gb w hm))
 go_loopw [10,30] (fun vo vi wr=>∃(k c:Nat)(p:Option Addr)(M G:List Blk)(cs:List Value),k≤N∧vi= .int .i64 (k:Int)∧vo= .slice p (k+2) c∧Own w0 wr (M++G)∧SlO M 22 1 (.slice p (k+2) c) (k+2) cs∧Hid (∀w',(∀b∈G,Row w' b.g b.t b.cs)→RdC w' cs ([setN (zeros 16) 15 X,nn]++ad.take k))) (fun _ vi _=>N-(intOf vi).toNat)
 case atStart=>exact⟨0,2,some ⟨gb,0,none⟩,[⟨gb,22,[.slice (some ⟨gf,0,none⟩) 16 16, .slice r1 NL d1]⟩],G0,_,by omega,rfl,rfl,hm,SlO.whole gb _ 1 2 _ rfl (by decide),R0⟩
 case round=>
   clear hm R0 BS
   obtain⟨k,c,p,M,G,cs,hk,rfl,rfl,hm,hs,HR⟩:=hrel
   by_cases hlt:k<N
   · have hd1:decide ((k:Int)<(N:Int))=true:=decide_eq_true (by omega)
     have hd2:(k:Int)<(N:Int):=by omega
     have hd3:0≤(k:Int)∧(k:Int)<(N:Int):=by omega
     obtain⟨A,rfl,kq,kc,hcell,hrd,hkc,_⟩:=(HS.out _ hm.x).row k (by rw [←HN.out];exact hlt)
     have hL:=HL.out k
     have TS:=hid (take_snoc ad k (by rw [←HN.out];exact hlt))
     obtain⟨B,hB⟩:=exq (ad.getD k [])
     rw [←hB]at hcell hrd hkc hL TS
     have CL:=hid fun w (hx:Ext wr w)=>clone_own B kq kc w (hrd.ext hx) (by omega)
     have HBL:=hid (show B.length≤maxLen from by unfold maxLen;omega)
     obtain⟨BL,hBL⟩:=exq (B.length)
     have HB:=hid hBL
     rw [←hBL]at hcell hkc hL CL
     clear hB hBL hrd hkc hL
     go_wp2_with fail
     refine(CL.out _ (Ext.refl _)).mono ?_
     rintro e_ w ⟨v6,M6,rfl,hm6,hs6⟩
     obtain⟨p6,c6,rfl⟩:=hs6.form
     rw [List.append_nil]at hm6
     replace hm:=(hm.join hm6).perm (perm_midS M6 M G)
     have R6:Hid (∀w',(∀b∈M6,Row w' b.g b.t b.cs)→RdB w' p6 B∧BL≤c6):=hid fun w' h=>slo_rdR hs6 h
     have B2:=hid (bs_s1 p6 BL c6)
     clear hm6 hs6 hcell CL HS
     go_wp2_with (first|((with_reducible apply wq_bs1g B2.out hm);exact rfl;exact rfl;clear hm;intro gy w hm)|((with_reducible show wpList _ _ _ (Oper.mk _ (Op.call _) _ _ _ _::_) _ _);refine wplO_app (M:=M) (R:=(⟨gy,22,[.slice p6 BL c6]⟩::(M6++G))) (ds:=[.slice p6 BL c6]) (hm.perm (List.perm_middle.symm)) hs rfl rfl rfl rfl Tryz.underlying48 rfl (cell1_sv (g:=gy) hm (by repeat (first|exact Has.hd|assumption|apply Has.tl|apply Has.app))) (by intro u hu;rw [List.mem_singleton.1 hu];rfl) (by omega) ?_;clear hm;intro v7 w M7 hm hs7;obtain⟨p_v7,c_v7,rfl⟩:=hs7.form))
     go_roundw
     case rel=>exact⟨k+1,_,_,M7,_,_,by omega,by go_num,by rfl,hm,hs7,hid fun w' h=>by
       have h3:=HR.out w' fun b hb=>h b (List.mem_cons_of_mem _ (List.mem_append_right _ hb))
       obtain⟨h4,h5⟩:=R6.out w' fun b hb=>h b (List.mem_cons_of_mem _ (List.mem_append_left _ hb))
       have h6:=h3.snoc h4 (d:=c6) (by rw [←HB.out];exact h5) HBL.out
       rw [←HB.out,List.append_assoc,←TS.out]at h6
       exact h6⟩
     case measure=>simp [intOf]<;>omega
   · obtain rfl:k=N:=by omega
     have hd1:decide ((k:Int)<(k:Int))=false:=decide_eq_false (by omega)
     have HZ:Hid (∀wx,(∀b∈M++G,Row wx b.g b.t b.cs)→RdR wx p (strS t nn ad)∧k+2=(strS t nn ad).length∧k+2≤c):=hid fun wx h=>by
       have hF:=HR.out wx fun b hb=>h b (List.mem_append_right _ hb)
       rw [List.take_of_length_le (by rw [←HN.out];exact Nat.le_refl _),←ST.out]at hF
       exact RdC.rdR hs (fun b hb=>h b (List.mem_append_left _ hb)) hF
     obtain⟨_,z2,z3⟩:=HZ.out wr hm.rows
     rw [z2]at z3
     have Z2:=hid z2
     have Z3:=hid z3
     have HM:=hid hm
     clear z2 z3 hm hs HR
     go_wp2_with fail
     go_ret2
     exact⟨p,c,M++G,by rw [←Z2.out];rfl,Z3.out,HM.out,fun wx h=>(HZ.out wx h).1⟩
def dcF(ks:List (List Byte))(x:List Byte):Nat→List Byte
 |0=>x
 |c+1=>unr (dcF ks x c) (ks.getD (ks.length-1-c) [])
theorem dcF_length(ks:List (List Byte))(x:List Byte)(hx:x.length=16):∀c,(dcF ks x c).length=16
 |0=>hx
 |c+1=>unr_length _ _
def aesD(k0:List Byte)(ks:List (List Byte))(kl b:List Byte):List Byte:=bothL (dcF ks (unl b kl) ks.length) k0
theorem aesD_length(k0:List Byte)(ks:List (List Byte))(kl b:List Byte):(aesD k0 ks kl b).length=16:=bothL_length _ _
theorem dcF_rnds(ks:List (List Byte))(x:List Byte)(hx:x.length=16):∀c,c≤ks.length→dcF ks (rnds x ks) c=rnds x (ks.take (ks.length-c))
 |0,_=>by rw [dcF,Nat.sub_zero,List.take_length]
 | c +1,h=>by
   rw [dcF,dcF_rnds ks x hx c (by omega)]
   have e:ks.take (ks.length-c)=ks.take (ks.length-(c+1))++[ks.getD (ks.length-1-c) []]:=by
     rw [show ks.length-c=(ks.length-(c+1))+1 from by omega,List.take_add_one,List.getD_eq_getElem?_getD,show ks.length-1-c=ks.length-(c+1)from by omega,List.getElem?_eq_getElem (by omega)]
     rfl
   rw [e,rnds_append]
   exact unr_rnd _ _ (rnds_length _ _ hx)
theorem aesD_aesE(k0:List Byte)(ks:List (List Byte))(kl b:List Byte)(hb:b.length=16):aesD k0 ks kl (aesE k0 ks kl b)=b:=by
 have lx:=bothL_length b k0
 rw [aesD,aesE,unl_last _ _ (rnds_length _ _ lx),dcF_rnds ks _ lx _ (Nat.le_refl _),Nat.sub_self,tZe]
 exact both_back b k0 hb
def adPk(key:List Byte):AdP:=⟨key,eK0 ((adX key).take 32),eKs ((adX key).take 32),eKl ((adX key).take 32),blk ((adX key).drop 32),blk (((adX key).drop 32).drop 16),nhW (((adX key).drop 32).drop 32)⟩
def wideE(a:Int)(key t m:List Byte):List Byte:=
 if a=1 then adEn (adPk key) t m (m.length-16)else if a=2 then hcDo (eK0 key) (eKs key) (eKl key) (hcH key) (hcL key) (aesE (eK0 key) (eKs key) (eKl key)) t m else aezL key t m
def CipR(w:World)(g:Nat)(a:Int)(key:List Byte):Prop:=∃gi,
 (a=1∧Row w g 79 [.int .i64 1, .iface 97 (.pointer (some ⟨gi,0,none⟩))]∧AdiP w gi (adPk key))
 ∨(a=2∧Row w g 79 [.int .i64 2, .iface 100 (.pointer (some ⟨gi,0,none⟩))]∧HcR w gi (eK0 key) (eKs key) (eKl key) (hcH key) (hcL key))
 ∨(a=3∧Row w g 79 [.int .i64 3, .iface 107 (.agg #[.pointer (some ⟨gi,0,none⟩)])]∧KeyR w gi (keyOf key))
theorem CipR.ext {w w':World}{g:Nat}{a:Int}{key:List Byte}(h:CipR w g a key)(hx:Ext w w'):CipR w' g a key:=by
 obtain⟨gi,⟨h1,h2,h3⟩|⟨h1,h2,h3⟩|⟨h1,h2,h3⟩⟩:=h
 · exact⟨gi, .inl ⟨h1,row_ext h2 hx,AdiR.ext h3 hx⟩⟩
 · exact⟨gi, .inr (.inl ⟨h1,row_ext h2 hx,h3.ext hx⟩)⟩
 · exact⟨gi, .inr (.inr ⟨h1,row_ext h2 hx,h3.ext hx⟩)⟩
theorem slo_read {w0 w:World}{M R:List Blk}{v:Value}{n:Nat}{X:List Byte}(hm:Own w0 w (M++R))(hs:SlO M 5 1 v n (X.map v8)):∃px cx,v= .slice px n cx∧RdB w px X∧n≤cx:=by
 obtain⟨p,c,rfl⟩:=hs.form
 refine⟨p,c,rfl,slo_rdZ hs hm, ?_⟩
 rcases hs.2 with ⟨_,h1,_⟩|⟨g,o,cap,cur,e1,_,h2,h3⟩
 · omega
 · cases e1;omega
theorem nthP_l(a b:List Byte)(i:Nat)(h:i<a.length):nth (a++b) i=nth a i:=by simp [nth,List.getElem?_append_left h]
theorem nthP_r(a b:List Byte)(i:Nat)(h:a.length≤i):nth (a++b) i=nth b (i-a.length):=by simp [nth,List.getElem?_append_right h]
theorem strF_nth(z:Nat)(hz:0<z)(S:Nat→List Byte)(hS:∀k,(S k).length=z)(b:List Byte)(k i:Nat)(h:i<b.length)(h2:i<z*k):nth (strF z S b k) i=nth b i^^^nth (S (i/z)) (i%z):=by
 induction k with
 |zero=>omega
 | succ k ih=>
   have l:=strF_length z S hS b k
   rw [Nat.mul_succ]at h2
   rw [strF]
   by_cases hk:i<z*k
   · rw [nthP_l _ _ _ (by omega),ih hk]
   · have e1:i/z=k:=by
       rw [Nat.div_eq_iff hz]
       have:=Nat.mul_comm k z
       omega
     have e2:i%z=i-z*k:=by
       have:=Nat.div_add_mod i z
       rw [e1]at this;omega
     have l2:(strF z S b k).length=z*k:=by omega
     rw [nthP_r _ _ _ (by omega),l2,xorL_nth _ _ _ (by rw [xorL_length,hS,List.length_drop];omega),e1,e2]
     congr 1
     simp [nth,List.getElem?_drop,show z*k+(i-z*k)=i by omega]
theorem strL_nth(z:Nat)(hz:0<z)(S:Nat→List Byte)(hS:∀k,(S k).length=z)(b:List Byte)(i:Nat)(h:i<b.length):nth (strL z S b) i=nth b i^^^nth (S (i/z)) (i%z):=
 strF_nth z hz S hS b _ i h (Nat.lt_of_lt_of_le h (strN_le z b.length hz))
theorem strL_twice(z:Nat)(hz:0<z)(S:Nat→List Byte)(hS:∀k,(S k).length=z)(b:List Byte):strL z S (strL z S b)=b:=by
 have l:=strL_length z hz S hS b
 have l2:=strL_length z hz S hS (strL z S b)
 refine nth_ext (by omega) fun i hi=> ?_
 rw [strL_nth z hz S hS _ i (by omega),strL_nth z hz S hS b i (by omega),BitVec.xor_assoc,BitVec.xor_self,BitVec.xor_zero]
theorem num_top(l:List Byte)(a:Int)(m i:Nat)(h:8*m≤i):(num l a m).getLsbD i=false:=by
 induction m with
 |zero=>simp [num]
 | succ m ih=>
   rw [num,BitVec.getLsbD_or,ih (by omega),BitVec.getLsbD_shiftLeft,BitVec.getLsbD_setWidth,Bool.false_or]
   rw [BitVec.getLsbD_of_ge (gb l (a+m)) (i-8*m) (by omega)]
   simp
theorem num_bits(l:List Byte)(a:Int)(m q j:Nat)(hq:q<m)(hm:m≤8)(hj:j<8):(num l a m).getLsbD (8*q+j)=(gb l (a+q)).getLsbD j:=by
 induction m with
 |zero=>omega
 | succ m ih=>
   rw [num,BitVec.getLsbD_or,BitVec.getLsbD_shiftLeft,BitVec.getLsbD_setWidth]
   by_cases h:q<m
   · rw [ih h (by omega),decide_eq_true (show 8*q+j<8*m by omega)]
     simp
   · have e:q=m:=by omega
     subst e
     rw [num_top l a q _ (by omega),decide_eq_true (show 8*q+j<64 by omega),decide_eq_false (show¬8*q+j<8*q by omega),show 8*q+j-8*q=j by omega,decide_eq_true (show j<64 by omega)]
     simp
theorem nth_putN(n:BitVec 64)(q:Nat)(h:q<8):nth (putL n 8) q=(n>>>(8*q)).setWidth 8:=putL_getD n 8 q h
theorem put_num(l:List Byte)(a:Int)(q:Nat)(h:q<8):nth (putL (num l a 8) 8) q=gb l (a+q):=by
 rw [nth_putN _ q h]
 apply BitVec.eq_of_getLsbD_eq
 intro j hj
 rw [BitVec.getLsbD_setWidth,BitVec.getLsbD_ushiftRight,num_bits l a 8 q j h (by omega) hj]
 simp [hj]
theorem wBytes_of(x:List Byte)(h:x.length=16):wBytes (wOf x)=x:=by
 refine nth_ext (by rw [wBytes_length,h]) fun i hi=> ?_
 rw [wBytes_length]at hi
 rw [wBytes,wOf]
 by_cases h8:i<8
 · rw [nthP_l _ _ _ (by rw [putL_length];omega),put_num _ _ _ h8,Int.zero_add]
   exact gb_in x i
 · rw [nthP_r _ _ _ (by rw [putL_length];omega),putL_length,put_num _ _ _ (by omega),show(8:Int)+((i-8:Nat):Int)=((i:Nat):Int)by omega]
   exact gb_in x i
theorem num_of_put(n:BitVec 64)(l:List Byte)(a:Nat)(h:∀q,q<8→nth l (a+q)=(n>>>(8*q)).setWidth 8):num l (a:Int) 8=n:=by
 apply BitVec.eq_of_getLsbD_eq
 intro i hi
 have e:i=8*(i/8)+i%8:=(Nat.div_add_mod i 8).symm
 rw [e,num_bits l a 8 (i/8) (i%8) (by omega) (by omega) (by omega),show(a:Int)+((i/8:Nat):Int)=((a+i/8:Nat):Int)by omega,gb_in]
 have:=h (i/8) (by omega)
 rw [nth]at this
 rw [this,BitVec.getLsbD_setWidth,BitVec.getLsbD_ushiftRight,decide_eq_true (show i%8<8 by omega),Bool.true_and]
theorem wOf_bytes(x:WW):wOf (wBytes x)=x:=by
 obtain⟨a,b⟩:=x
 rw [wBytes,wOf]
 refine Prod.ext ?_ ?_
 · exact num_of_put a _ 0 fun q hq=>by
     rw [Nat.zero_add,nthP_l _ _ _ (by rw [putL_length];omega),nth_putN _ _ hq]
 · exact num_of_put b _ 8 fun q hq=>by
     rw [nthP_r _ _ _ (by rw [putL_length];omega),putL_length,show 8+q-8=q by omega,nth_putN _ _ hq]
theorem carry_sub(x y:BitVec 64):carryB (x-y) y 0#64=borrowB x y 0#64:=by
 unfold carryB borrowB
 have hx:=x.isLt
 have hy:=y.isLt
 apply BitVec.eq_of_toNat_eq
 rw [BitVec.toNat_ofNat,BitVec.toNat_sub]
 split<;>simp at* <;>omega
theorem borrow_add(x y:BitVec 64):borrowB (x+y) y 0#64=carryB x y 0#64:=by
 unfold carryB borrowB
 have hx:=x.isLt
 have hy:=y.isLt
 apply BitVec.eq_of_toNat_eq
 rw [BitVec.toNat_ofNat]
 split<;>rename_i h<;>rw [BitVec.toNat_add]at h<;>simp at* <;>omega
theorem wPlus_minus(a b:WW):wPlus (wMinus a b) b=a:=by
 obtain⟨a1,a2⟩:=a
 obtain⟨b1,b2⟩:=b
 simp only [wPlus,wMinus,carry_sub]
 refine Prod.ext (BitVec.sub_add_cancel _ _) ?_
 show a2-b2-borrowB a1 b1 0#64+b2+borrowB a1 b1 0#64=a2
 generalize borrowB a1 b1 0#64=c
 bv_omega
theorem wMinus_plus(a b:WW):wMinus (wPlus a b) b=a:=by
 obtain⟨a1,a2⟩:=a
 obtain⟨b1,b2⟩:=b
 simp only [wPlus,wMinus,borrow_add]
 refine Prod.ext (BitVec.add_sub_cancel _ _) ?_
 show a2+b2+carryB a1 b1 0#64-b2-carryB a1 b1 0#64=a2
 generalize carryB a1 b1 0#64=c
 bv_omega
def adMidD(P:AdP)(t m:List Byte)(n:Nat):WW:=wPlus (wOf (rgt m n)) (adSum P t (m.take n))
def adBulkD(P:AdP)(t m:List Byte)(n:Nat):List Byte:=astL P.key (m.take n) (adMidD P t m n).1 (adMidD P t m n).2
def adDe(P:AdP)(t m:List Byte)(n:Nat):List Byte:=adBulkD P t m n++wBytes (wMinus (wOf (aesD P.k0 P.ks P.kl (wBytes (adMidD P t m n)))) (adSum P t (adBulkD P t m n)))
theorem adBulkD_length(P:AdP)(t m:List Byte)(n:Nat)(h:n≤m.length):(adBulkD P t m n).length=n:=by rw [adBulkD,astL_length,List.length_take];omega
theorem adDe_length(P:AdP)(t m:List Byte)(n:Nat)(h:n≤m.length):(adDe P t m n).length=n+16:=by rw [adDe,List.length_append,adBulkD_length P t m n h,wBytes_length]
theorem astL_twice(key b:List Byte)(lo hi:BitVec 64):astL key (astL key b lo hi) lo hi=b:=strL_twice 64 (by omega) _ (xchB_length _ _) b
theorem adDe_adEn(P:AdP)(t m:List Byte)(n:Nat)(h:m.length=n+16):adDe P t (adEn P t m n) n=m:=by
 have l1:=adBulk_length P t m n (by omega)
 have e1:(adEn P t m n).take n=adBulk P t m n:=by rw [adEn,List.take_left' l1]
 have e2:rgt (adEn P t m n) n=wBytes (wMinus (adMid P t m n) (adSum P t (adBulk P t m n))):=by
   rw [rgt,adEn,List.drop_left' l1,List.take_of_length_le (by rw [wBytes_length];omega)]
 have e3:adMidD P t (adEn P t m n) n=adMid P t m n:=by rw [adMidD,e1,e2,wOf_bytes,wPlus_minus]
 have e4:adBulkD P t (adEn P t m n) n=m.take n:=by rw [adBulkD,e1,e3,adBulk,astL_twice]
 have lr:(rgt m n).length=16:=by rw [rgt,List.length_take,List.length_drop];omega
 rw [adDe,e3,e4,adMid,wBytes_of _ (aesE_length _ _ _ _),aesD_aesE _ _ _ _ (wBytes_length _),wOf_bytes,wMinus_plus,wBytes_of _ lr,rgt]
 rw [List.take_of_length_le (show(m.drop n).length≤16 by rw [List.length_drop];omega),List.take_append_drop]
theorem p3L_comm(a b c:List Byte):p3L a b c=p3L b a c:=by
 simp only [p3L,plusL]
 rw [both_assoc (zer 16) a b,both_comm a b,←both_assoc (zer 16) b a]
theorem hcDo_back(k0:List Byte)(ks:List (List Byte))(kl h l:List Byte)(E D:List Byte→List Byte)(hE:∀x,(E x).length=16)(hD:∀x,x.length=16→D (E x)=x)(t m:List Byte)(hm:16≤m.length):hcDo k0 ks kl h l D t (hcDo k0 ks kl h l E t m)=m:=by
 obtain⟨one,h1⟩:=exq (hcOne h t m)
 have lo:one.length=16:=by rw [h1];exact hcOne_length _ _ _
 obtain⟨B,hB⟩:=exq (hcBulk k0 ks kl h l E t m)
 obtain⟨M,hM⟩:=exq (hcDo k0 ks kl h l E t m)
 rw [←hM]
 have eM:M=bothL (E one) (vhL h t B)++B:=by rw [hM,hcDo,←h1,←hB]
 have lf:=bothL_length (E one) (vhL h t B)
 have et:M.take 16=bothL (E one) (vhL h t B):=by rw [eM,List.take_left' lf]
 have ed:M.drop 16=B:=by rw [eM,List.drop_left' lf]
 have e1:hcOne h t M=E one:=by rw [hcOne,et,ed,both_back _ _ (hE _)]
 have e2:D (E one)=one:=hD one lo
 have e3:hcBulk k0 ks kl h l D t M=m.drop 16:=by
   rw [hcBulk,e1,e2,ed,hB,hcBulk,←h1,p3L_comm (E one) one l]
   exact strL_twice 16 (by omega) _ (xcB_length _ _ _ _) _
 rw [hcDo,e1,e2,e3,h1,hcOne,both_back _ _ (by rw [List.length_take];omega),List.take_append_drop]
def wideD(a:Int)(key t m:List Byte):List Byte:=
 if a=1 then adDe (adPk key) t m (m.length-16)else if a=2 then hcDo (eK0 key) (eKs key) (eKl key) (hcH key) (hcL key) (aesD (eK0 key) (eKs key) (eKl key)) t m else tinyL (eZ (keyOf key)) (hashG (eZ (keyOf key)) [t]) true m
def wideX(bk:Bool)(a:Int)(key t m:List Byte):List Byte:=if bk then wideD a key t m else wideE a key t m
theorem unboxed_any(g gb:Nat)(b:List Byte)(hb:b.length=16)(w0:World)(h1:Row w0 g 88 (tcells gb mixT unmixT))(h2:Row w0 gb 113 (tabs.map v8)):Gives Tryz.prog 196 #[.pointer (some ⟨g,0,none⟩),A8 b] w0 (A8 (unbL b)):=by
 unfold Gives
 have hm:=Own.start w0
 have hb1:=Nat.le_of_eq hb
 have hb2:=Nat.le_of_eq hb.symm
 have H1:=hid h1
 have H2:=hid h2
 clear hb h1 h2
 go_enter Tryz.func196,Tryz.ntmps196
 go_wp2_with (first|((first|((with_reducible show qAl);refine zG hm ?_)|((with_reducible show qBx);refine zH hm ?_));clear hm;(first|(have hx_:=g1;clear hx_;(first|(have hx_:=g2;clear hx_;(first|(have hx_:=g3;clear hx_;intro gx_)|intro g3))|intro g2))|intro g1);intro w hm))
 go_loopw [8] (fun i wr=>∃col:Nat,col≤4∧i= .int .i64 col∧Own w0 wr [⟨g3,132,(unbF b (4*col)).map v8⟩,⟨g2,132,(zer 16).map v8⟩,⟨g1,132,b.map v8⟩]) (fun i _=>4-(intOf i).toNat)
 case atStart=>exact⟨0,by omega,rfl,hm⟩
 case round =>
   obtain⟨col,hcol,rfl,hm⟩:=hrel
   by_cases hlt:col<4
   · have hd : decide ((col:Int)<4)=true:=by simp;omega
     go_wp2_with fail
     go_loopw [11] (fun j wr=>∃row:Nat,row≤4∧j= .int .i64 row∧Own w0 wr [⟨g3,132,(unbF b (4*col+row)).map v8⟩,⟨g2,132,(zer 16).map v8⟩,⟨g1,132,b.map v8⟩]) (fun j _=>4-(intOf j).toNat)
     case atStart=>exact⟨0,by omega,rfl,hm⟩
     case round =>
       obtain⟨row,hrow,rfl,hm⟩:=hrel
       by_cases hlr:row<4
       · have hs:=shp_lt row col hlr
         have hs2:(shp row col:Int)<16:=by omega
         have hi2:(row:Int)+4*(col:Int)<16:=by omega
         have hi0:(0:Int)≤(row:Int)+4*(col:Int):=by omega
         have hin:((row:Int)+4*(col:Int)).toNat=row+4*col:=by omega
         have ul:=unbF_length b (4*col+row)
         have e1:unbF b (4*col+row+1)=setN (unbF b (4*col+row)) (shp row col) (bxBack (nth b (row+4*col))):=by rw [unbF,show(4*col+row)%4=row from by omega,show(4*col+row)/4=col from by omega,Nat.add_comm (4*col) row]
         have E1:=hid e1
         have HR:=hid (row_ext H1.out hm.x)
         have HB:=hid (row_ext H2.out hm.x)
         clear e1
         go_wp2_with fail
         refine rgE 15 32 ?_
         simp only [zTa]
         repeat (first
             | (apply walk_is rfl rfl rfl
                · (intro wx hwx;(with_reducible apply gq_row1 ((fun wx hwx=>row_ext HR.out hwx) wx hwx));infer_instance;exact rfl;(exact tcells_ptr _ _ _))
                · (simp only [zPu];rfl))
             | (apply walk_is rfl rfl rfl
                · (intro wx hwx;first|((with_reducible show qGl);exact zJ (hm.ext hwx))|(go_simp;(try go_bits);first|exact gives_same|exact gives_skip|with_reducible exact gives_call (shifted_G row col hlr hlt wx)|with_reducible exact gives_call (back_G gb _ wx (row_ext HB.out hwx))))
                · (simp only [zPu];rfl))
             | (apply walk_not rfl rfl rfl
                · (simp only [zPu];rfl)))
         intro wz hwz
         simp only [zZi]
         repeat (first|rw [fin_is]|(rw [fin_cons];intro _ _))
         rw [fin_nil]
         try (replace hm:=hm.ext hwz)
         simp only [zPu]
         go_wp2_with (first|((with_reducible show qSt);refine zD hm ?_;clear hm;intro w hm))
         go_roundw
         case rel=>exact⟨row+1,by omega,by go_num,by rw [show 4*col+(row+1)=4*col+row+1 from rfl,E1.out];exact hm⟩
         case measure=>simp [intOf]<;>omega
       · obtain rfl:row=4:=by omega
         go_wp2_with fail
         go_roundw
         case rel=>exact⟨col+1,by omega,by go_num,by rw [show 4*(col+1)=4*col+4 from by omega];exact hm⟩
         case measure=>simp [intOf]<;>omega
   · obtain rfl:col=4:=by omega
     have ul:=unbF_length b (4*4)
     go_wp2_with (first|((with_reducible show qLd);refine zB hm ?_)|((with_reducible show qSt);refine zE hm ?_;clear hm;intro w hm))
     refine ret_own hm rfl rfl (by infer_instance) (by repeat (first|exact Has.hd|assumption|apply Has.tl)) (by first|rfl|omega|(simp only [zeros_length,zer_length,tab_length,part_length,setN_length,List.length_map,List.length_cons,List.length_nil,List.length_append,List.length_take,List.length_drop,List.length_replicate,blk_length,putL_length]<;>omega)) rfl ⟨rfl,hm.x⟩
theorem unlast_any(g gb:Nat)(b key:List Byte)(hb:b.length=16)(hk:key.length=16)(w0:World)(h1:Row w0 g 88 (tcells gb mixT unmixT))(h2:Row w0 gb 113 (tabs.map v8)):Gives Tryz.prog 187 #[.pointer (some ⟨g,0,none⟩),A8 b,A8 key] w0 (A8 (unbL (bothL b key))):=by
 unfold Gives
 have hm:=Own.start w0
 have hb1:=Nat.le_of_eq hb
 have hb2:=Nat.le_of_eq hb.symm
 have hk1:=Nat.le_of_eq hk
 have hk2:=Nat.le_of_eq hk.symm
 have HB:=hid hb
 have HK:=hid hk
 have H1:=hid h1
 have H2:=hid h2
 have ul:=unbL_length (bothL b key)
 clear hb hk h1 h2
 go_enter Tryz.func187,Tryz.ntmps187
 go_wp2_with (first|(go_at_call 108;(with_reducible refine(both_any b key HB.out HK.out _).mono ?_);rintro e_ w ⟨rfl,hx_⟩;replace hm:=hm.ext hx_;clear hx_)|(go_at_call 196;(with_reducible refine(unboxed_any g gb (bothL b key) (bothL_length _ _) _ (row_ext H1.out hm.x) (row_ext H2.out hm.x)).mono ?_);rintro e_ w ⟨rfl,hx_⟩;replace hm:=hm.ext hx_;clear hx_)|((with_reducible show qLd);refine zB hm ?_)|((with_reducible show qSt);refine zE hm ?_;clear hm;intro w hm)|((first|((with_reducible show qAl);refine zG hm ?_)|((with_reducible show qBx);refine zH hm ?_));clear hm;intro gx_;intro w hm))
 refine ret_own hm rfl rfl (by infer_instance) (by repeat (first|exact Has.hd|assumption|apply Has.tl)) (by first|rfl|omega|(simp only [zeros_length,zer_length,tab_length,part_length,setN_length,List.length_map,List.length_cons,List.length_nil,List.length_append,List.length_take,List.length_drop,List.length_replicate,blk_length,putL_length]<;>omega)) rfl ⟨rfl,hm.x⟩
attribute [local simp] putL_length
theorem uncB_col(U:List Byte)(col:Nat)(r:Nat)(h:r<4):byteW (uncW U col 4) r=uncB U (4*col+r):=by
 rw [uncB,show(4*col+r)/4=col from by omega,show(4*col+r)%4=r from by omega]
theorem unround_any(g gb:Nat)(b key:List Byte)(hb:b.length=16)(hk:key.length=16)(w0:World)(h1:Row w0 g 88 (tcells gb mixT unmixT))(h2:Row w0 gb 113 (tabs.map v8)):Gives Tryz.prog 188 #[.pointer (some ⟨g,0,none⟩),A8 b,A8 key] w0 (A8 (unr b key)):=by
 unfold Gives
 have hm:=Own.start w0
 have hb1:=Nat.le_of_eq hb
 have hb2:=Nat.le_of_eq hb.symm
 have hk1:=Nat.le_of_eq hk
 have hk2:=Nat.le_of_eq hk.symm
 have H1:=hid h1
 have H2:=hid h2
 have hU:(bothL b key).length=16:=bothL_length _ _
 have CB:=hid fun wx=>both_any b key hb hk wx
 unfold unr
 generalize bothL b key=U at*
 have HU:=hid hU
 have hu1:=Nat.le_of_eq hU
 have hu2:=Nat.le_of_eq hU.symm
 have ul:(unbL (uncL U)).length=16:=unbL_length _
 have CU:=hid fun g wx h h2=>unboxed_any g gb (uncL U) (uncL_length _) wx h h2
 have eU:uncL U=tab 16 (uncB U):=rfl
 have lX:(uncL U).length=16:=uncL_length U
 generalize uncL U=X at*
 have EU:=hid eU
 clear hb hk h1 h2 hU eU
 go_enter Tryz.func188,Tryz.ntmps188
 go_wp2_with (first|(go_at_call 108;(with_reducible refine(CB.out _).mono ?_);rintro e_ w ⟨rfl,hx_⟩;replace hm:=hm.ext hx_;clear hx_)|((with_reducible show qLd);refine zB hm ?_)|((with_reducible show qSt);refine zE hm ?_;clear hm;intro w hm)|((first|((with_reducible show qAl);refine zG hm ?_)|((with_reducible show qBx);refine zH hm ?_));clear hm;(first|(have hx_:=g1;clear hx_;(first|(have hx_:=g2;clear hx_;(first|(have hx_:=g3;clear hx_;(first|(have hx_:=g4;clear hx_;intro gx_)|intro g4))|intro g3))|intro g2))|intro g1);intro w hm))
 go_loopw [18] (fun i wr=>∃col:Nat,col≤4∧i= .int .i64 col∧Own w0 wr [⟨g4,132,(part 16 (4*col) (uncB U) fun _=>0).map v8⟩,⟨g3,132,(zer 16).map v8⟩,⟨g2,132,key.map v8⟩,⟨g1,132,U.map v8⟩]) (fun i _=>4-(intOf i).toNat)
 case atStart=>exact⟨0,by omega,rfl,by rw [←zer_start];exact hm⟩
 case round =>
   obtain⟨col,hcol,rfl,hm⟩:=hrel
   by_cases hlt:col<4
   · have hd : decide ((col:Int)<4)=true:=by simp;omega
     go_wp2_with fail
     go_loopw [9,21] (fun n j wr=>∃row:Nat,row≤4∧j= .int .i64 row∧n=v32 (uncW U col row)∧Own w0 wr [⟨g4,132,(part 16 (4*col) (uncB U) fun _=>0).map v8⟩,⟨g3,132,(zer 16).map v8⟩,⟨g2,132,key.map v8⟩,⟨g1,132,U.map v8⟩]) (fun _ j _=>4-(intOf j).toNat)
     case atStart=>exact⟨0,by omega,rfl,rfl,hm⟩
     case round =>
       obtain⟨row,hrow,rfl,rfl,hm⟩:=hrel
       by_cases hlr:row<4
       · have hs2:(row:Int)+4*(col:Int)<16:=by omega
         have hs3:0≤(row:Int)+4*(col:Int):=by omega
         have hs4:((row:Int)+4*(col:Int)).toNat=row+4*col:=by omega
         have hx9:((nth U (row+4*col)).toNat:Int)<256:=by have:=(nth U (row+4*col)).isLt;omega
         have e1:uncW U col (row+1)=uncW U col row^^^brg unmixesL row (nth U (row+4*col)) 4:=rfl
         have E1:=hid e1
         have HR:=hid (row_ext H1.out hm.x)
         clear e1
         go_wp2_with fail
         refine rgE 15 51 ?_
         simp only [zTa]
         repeat (first
             | (apply walk_is rfl rfl rfl
                · (intro wx hwx;(with_reducible apply gq_row1 ((fun wx hwx=>row_ext HR.out hwx) wx hwx));infer_instance;exact rfl;(exact tcunmix _ _ _ hlr))
                · (simp only [zPu];rfl))
             | (apply walk_is rfl rfl rfl
                · (intro wx hwx;first|((with_reducible show qGl);exact zJ (hm.ext hwx))|(go_simp;(try go_bits);first|exact gives_same|exact gives_skip))
                · (simp only [zPu];rfl))
             | (apply walk_not rfl rfl rfl
                · (simp only [zPu];rfl)))
         intro wz hwz
         simp only [zZi]
         repeat (first|rw [fin_is]|(rw [fin_cons];intro _ _))
         rw [fin_nil]
         try (replace hm:=hm.ext hwz)
         simp only [zPu]
         go_wp2_with fail
         go_roundw
         case rel=>exact⟨row+1,by omega,by go_num,by rw [E1.out],hm⟩
         case measure=>simp [intOf]<;>omega
       · obtain rfl:row=4:=by omega
         go_wp2_with (first|(go_at_call 83;(with_reducible refine(putword_any _ _).mono ?_);rintro e_ w ⟨rfl,hx_⟩;replace hm:=hm.ext hx_;clear hx_)|((with_reducible show qSt);refine zE hm ?_;clear hm;intro w hm)|(((with_reducible show qAl);refine zG hm ?_);clear hm;(first|(have hx_:=g1;clear hx_;(first|(have hx_:=g2;clear hx_;(first|(have hx_:=g3;clear hx_;(first|(have hx_:=g4;clear hx_;intro gx_)|intro g4))|intro g3))|intro g2))|intro g1);intro w hm))
         have hl0:(0:Int)≤4*(col:Int):=by omega
         have hl1:4*(col:Int)≤16:=by omega
         have hl2:(4*(col:Int)).toNat=4*col:=by omega
         have hl3:16≠4*col:=by omega
         have hl4:¬16=4*col:=hl3
         refine rgE 4 51 ?_
         simp only [zTa]
         repeat (first
             | (apply walk_is rfl rfl rfl
                · (intro wx hwx;go_simp;(try go_bits);first|exact gives_same|exact gives_skip)
                · (simp only [zPu];rfl))
             | (apply walk_not rfl rfl rfl
                · (simp only [zPu];rfl)))
         intro wz hwz
         simp only [zZi]
         repeat (first|rw [fin_is]|(rw [fin_cons];intro _ _))
         rw [fin_nil]
         try (replace hm:=hm.ext hwz)
         simp only [zPu]
         refine wpl_cp8 hm rfl rfl rfl rfl rfl (by kernel_rfl) (by repeat (first|exact Swap.hd|assumption|apply Swap.tl)) (hm.rdB (by repeat (first|exact Has.hd|assumption|apply Has.tl))) (putL_length _ _).symm (over_col _ (uncB U) col _ hlt (by omega) (uncB_col U col)) (by simp;omega) ?_
         clear hm
         intro w hm
         go_wp2_with fail
         go_roundw
         case rel=>exact⟨col+1,by omega,by go_num,by rw [show 4*(col+1)=4*col+4 from by omega];exact hm.drop⟩
         case measure=>simp [intOf]<;>omega
   · obtain rfl:col=4:=by omega
     rw [show 4*4=16 from rfl,part_all,←EU.out]at hm
     go_wp2_with (first|(go_at_call 196;(with_reducible refine(CU.out g _ (row_ext H1.out hm.x) (row_ext H2.out hm.x)).mono ?_);rintro e_ w ⟨rfl,hx_⟩;replace hm:=hm.ext hx_;clear hx_)|((with_reducible show qLd);refine zB hm ?_)|((with_reducible show qSt);refine zE hm ?_;clear hm;intro w hm))
     refine ret_own hm rfl rfl (by infer_instance) (by repeat (first|exact Has.hd|assumption|apply Has.tl)) (by first|rfl|omega|(simp only [zeros_length,zer_length,tab_length,part_length,setN_length,List.length_map,List.length_cons,List.length_nil,List.length_append,List.length_take,List.length_drop,List.length_replicate,blk_length,putL_length]<;>omega)) rfl ⟨rfl,hm.x⟩
end Go.Proofs.YtneacgpmjlocjaaGreatDoor
namespace Go.Proofs.YtneacgpmjlocjaaGreatDoor
open Go Go.RowKit
set_option maxRecDepth 100000
theorem decrypt_any(g:Nat)(k0 kl:List Byte)(ks:List (List Byte))(b:List Byte)(hb:b.length=16)(w0:World)(h:AesR w0 g k0 ks kl):Gives Tryz.prog 181 #[.pointer (some ⟨g,0,none⟩),A8 b] w0 (A8 (aesD k0 ks kl b)):=by
 unfold Gives
 have hm:=Own.start w0
 obtain⟨gt,gb,a,c,h1,h2,h3,h4,h5,h6,h7⟩:=h
 have R1:=hid fun wx (hx:Ext w0 wx)=>row_ext h1 hx
 obtain⟨l0,ll,d0,dm,dl⟩:=h4.three h6
 have D0:=hid d0
 have DL:=hid dl
 have KA:=hid fun (j:Nat)(hj:0<j)(hjm:j≤ks.length)=>(show RdB w0 (some (a.add (j*16))) (ks.getD (j-1) [])∧(ks.getD (j-1) []).length=16 from by
   have:=h4.at (by omega) j (by simp;omega)
   rwa [show(k0::(ks++[kl])).getD j []=ks.getD (j-1) []from by
     obtain⟨i,rfl⟩:∃i,j=i+1:=⟨j-1,by omega⟩
     simp only [Nat.add_sub_cancel,List.getD_eq_getElem?_getD,List.getElem?_cons_succ]
     rw [List.getElem?_append_left (by omega)]]at this)
 have lu:(unl b kl).length=16:=unl_length _ _
 have B0:=hid fun wx (hx:Ext w0 wx)=>(show Gives Tryz.prog 187 #[.pointer (some ⟨gt,0,none⟩),A8 b,A8 kl] wx (A8 (dcF ks (unl b kl) 0))from unlast_any gt gb b kl hb ll wx (row_ext h2 hx) (row_ext h3 hx))
 have BR:=hid fun (cc:Nat)(hc:cc<ks.length) wx (hx:Ext w0 wx)=>(show Gives Tryz.prog 188 #[.pointer (some ⟨gt,0,none⟩),A8 (dcF ks (unl b kl) cc),A8 (ks.getD (ks.length-cc-1) [])] wx (A8 (dcF ks (unl b kl) (cc+1)))from by
   rw [show ks.length-cc-1=ks.length-1-cc from by omega]
   exact unround_any gt gb _ _ (dcF_length ks _ lu cc) (by have:=(KA.out (ks.length-cc) (by omega) (by omega)).2;rwa [show ks.length-cc-1=ks.length-1-cc from by omega]at this) wx (row_ext h2 hx) (row_ext h3 hx))
 have B2:=hid fun wx=>(show Gives Tryz.prog 90 #[A8 (dcF ks (unl b kl) ks.length),A8 k0] wx (A8 (aesD k0 ks kl b))from aboth_any _ k0 (dcF_length ks _ lu _) l0 wx)
 have LF:=hid (dcF_length ks (unl b kl) lu)
 have lE:=aesD_length k0 ks kl b
 obtain⟨m,hm_⟩:∃m,ks.length=m:=⟨_,rfl⟩
 rw [hm_]at R1 h5 h6 h7 DL B2 BR KA
 generalize aesD k0 ks kl b=E at*
 generalize dcF ks (unl b kl)=F at*
 have P0:Hid ((aesC gt (some a) (m+2) c)[0]? =some (.pointer (some ⟨gt,0,none⟩))):=hid rfl
 have P1:Hid ((aesC gt (some a) (m+2) c)[1]? =some (.slice (some a) (m+2) c)):=hid rfl
 have q1:((m:Int)+2)-1=(m:Int)+1:=by omega
 have q4:0≤(m:Int)+1∧(m:Int)+1<(m:Int)+2:=by omega
 have q8:(m:Int)+1<(m:Int)+2:=by omega
 have q9:0≤(m:Int)+1:=by omega
 have q5:((m:Int)+1).toNat=m+1:=by omega
 have q6:(0:Int)<(m:Int)+2:=by omega
 have hb1:=Nat.le_of_eq hb
 have hb2:=Nat.le_of_eq hb.symm
 have he1:=Nat.le_of_eq lE
 have he2:=Nat.le_of_eq lE.symm
 have hf1:=fun k=>Nat.le_of_eq (LF.out k)
 have hf2:=fun k=>Nat.le_of_eq (LF.out k).symm
 have HF1:=hid hf1
 have HF2:=hid hf2
 have f0:=hf1 0
 have f0':=hf2 0
 clear h1 h2 h3 h4 d0 dm dl hm_ hb lE hf1 hf2 lu
 go_enter Tryz.func181,Tryz.ntmps181
 go_wp2_with (first|((with_reducible apply wq_row1 (R1.out _ hm.x));exact rfl;infer_instance;exact rfl;exact P1.out)|((first|((with_reducible show qAl);refine zG hm ?_)|((with_reducible show qBx);refine zH hm ?_));clear hm;(first|(have hx_:=g1;clear hx_;(first|(have hx_:=g2;clear hx_;intro gx_)|intro g2))|intro g1);intro w hm))
 have r1:=fun wx (hwx:Ext w wx)=>R1.out wx (hm.x.trans hwx)
 have d0:=fun wx (hwx:Ext w wx)=>DL.out.ext (hm.x.trans hwx)
 have hx0:=hm.x
 refine rgE 13 53 ?_
 simp only [zTa]
 repeat (first
     | (apply walk_is rfl rfl rfl
        · (intro wx hwx;(with_reducible apply gq_row1 ((r1) wx hwx));infer_instance;exact rfl;exact P0.out)
        · (simp only [zPu];rfl))
     | (apply walk_is rfl rfl rfl
        · (intro wx hwx;(with_reducible apply gq_row1 ((r1) wx hwx));infer_instance;exact rfl;exact P1.out)
        · (simp only [zPu];rfl))
     | (apply walk_is rfl rfl rfl
        · (intro wx hwx;(with_reducible apply gq_rdW ((d0) wx hwx));infer_instance;exact rfl;(focus (first|rfl|omega|(simp;done)|(simp;omega))))
        · (simp only [zPu];rfl))
     | (apply walk_is rfl rfl rfl
        · (intro wx hwx;first|((with_reducible show qGl);exact zK (hm.ext hwx))|(go_simp;(try go_bits);first|exact gives_same|exact gives_skip|with_reducible exact gives_call (B0.out wx (hx0.trans hwx))))
        · (simp only [zPu];rfl))
     | (apply walk_not rfl rfl rfl
        · (simp only [zPu];rfl)))
 intro wz hwz
 simp only [zZi]
 repeat (first|rw [fin_is]|(rw [fin_cons];intro _ _))
 rw [fin_nil]
 try (replace hm:=hm.ext hwz)
 simp only [zPu]
 clear r1 d0 hx0
 go_wp2_with (first|((with_reducible show qSt);refine zE hm ?_;clear hm;intro w hm))
 have KB:=hid fun (j:Nat)(hj:j<m) wx (hx:Ext w0 wx)=>((KA.out (j+1) (by omega) (by omega)).1.ext hx:RdB wx (some (a.add ((j+1)*16))) (ks.getD (j+1-1) []))
 have KL:=hid fun (j:Nat)(hj:j<m)=>(KA.out (j+1) (by omega) (by omega)).2
 have BJ:=hid fun (j:Nat)(hj:j<m) wx (hx:Ext w0 wx)=>(show Gives Tryz.prog 188 #[.pointer (some ⟨gt,0,none⟩),A8 (F (m-(j+1))),A8 (ks.getD (j+1-1) [])] wx (A8 (F (m-j)))from by
   have h:=BR.out (m-(j+1)) (by omega) wx hx
   rwa [show m-(m-(j+1))-1=j+1-1 from by omega,show m-(j+1)+1=m-j from by omega]at h)
 clear q1 q4 q8 q9 q5 KA BR
 simp only [zPu]
 go_loopw [5] (fun i wr=>∃j:Nat,j≤m∧i= .int .i64 ((j:Int)+1)∧Own w0 wr [⟨g2,132,(zer 16).map v8⟩,⟨g1,132,(F (m-j)).map v8⟩]) (fun i _=>(intOf i).toNat)
 case atStart=>exact⟨m,Nat.le_refl _,rfl,by rw [Nat.sub_self];exact hm⟩
 case round =>
   obtain⟨j,hj,rfl,hm⟩:=hrel
   cases j with
   | zero=>
     have hd1:decide (((0:Nat):Int)+1>1)=false:=by decide
     rw [Nat.sub_zero]at hm
     have f1:=HF1.out m
     have f2:=HF2.out m
     go_wp2_with fail
     have r1:=fun wx (hwx:Ext wr wx)=>R1.out wx (hm.x.trans hwx)
     have d0:=fun wx (hwx:Ext wr wx)=>D0.out.ext (hm.x.trans hwx)
     have hx0:=hm.x
     obtain⟨w,rfl⟩:∃w_,w_=wr:=⟨_,rfl⟩
     refine rgE 8 53 ?_
     simp only [zTa]
     repeat (first
         | (apply walk_is rfl rfl rfl
            · (intro wx hwx;(with_reducible apply gq_row1 ((r1) wx hwx));infer_instance;exact rfl;exact P0.out)
            · (simp only [zPu];rfl))
         | (apply walk_is rfl rfl rfl
            · (intro wx hwx;(with_reducible apply gq_row1 ((r1) wx hwx));infer_instance;exact rfl;exact P1.out)
            · (simp only [zPu];rfl))
         | (apply walk_is rfl rfl rfl
            · (intro wx hwx;(with_reducible apply gq_rdW ((d0) wx hwx));infer_instance;exact rfl;(focus (first|rfl|omega|(simp;done)|(simp;omega))))
            · (simp only [zPu];rfl))
         | (apply walk_is rfl rfl rfl
            · (intro wx hwx;first|((with_reducible show qGl);exact zK (hm.ext hwx))|(go_simp;(try go_bits);first|exact gives_same|exact gives_skip|with_reducible exact gives_call (B2.out wx)))
            · (simp only [zPu];rfl))
         | (apply walk_not rfl rfl rfl
            · (simp only [zPu];rfl)))
     intro wz hwz
     simp only [zZi]
     repeat (first|rw [fin_is]|(rw [fin_cons];intro _ _))
     rw [fin_nil]
     try (replace hm:=hm.ext hwz)
     simp only [zPu]
     clear r1 d0 hx0
     go_wp2_with (first|((with_reducible show qSt);refine zE hm ?_;clear hm;intro w hm))
     refine rtO hm rfl rfl ⟨rfl,hm.x⟩
   | succ j =>
     have hd1:decide ((((j+1:Nat):Int))+1>1)=true:=decide_eq_true (by omega)
     have hd2:decide ((j:Int)+1+1>1)=true:=decide_eq_true (by omega)
     have q1:(j:Int)+1+1-1=(j:Int)+1:=by omega
     have q4:0≤(j:Int)+1∧(j:Int)+1<(m:Int)+2:=by omega
     have q5:((j:Int)+1).toNat=j+1:=by omega
     have q8:(j:Int)+1<(m:Int)+2:=by omega
     have q9:0≤(j:Int)+1:=by omega
     have b0:=fun wx (hx:Ext w0 wx)=>BJ.out j (by omega) wx hx
     have kb:=fun wx (hx:Ext w0 wx)=>KB.out j (by omega) wx hx
     have kl:=KL.out j (by omega)
     have k1:=Nat.le_of_eq kl
     have k2:=Nat.le_of_eq kl.symm
     have f1:=HF1.out (m-(j+1))
     have f2:=HF2.out (m-(j+1))
     have f3:=HF1.out (m-j)
     have f4:=HF2.out (m-j)
     obtain⟨X0,hX0⟩:=exq (F (m-(j+1)))
     obtain⟨X1,hX1⟩:=exq (F (m-j))
     obtain⟨kk,hkk⟩:=exq (ks.getD (j+1-1) [])
     rw [←hX0]at hm b0 f1 f2
     rw [←hX1]at b0 f3 f4
     rw [←hkk]at b0 kb kl k1 k2
     have HB:=hid b0
     have HKB:=hid kb
     have HX1:=hid hX1
     clear b0 kb hX0 hX1 hkk
     obtain⟨w,rfl⟩:∃w_,w_=wr:=⟨_,rfl⟩
     go_wp2_with fail
     have r1:=fun wx (hwx:Ext w wx)=>R1.out wx (hm.x.trans hwx)
     have d0:=fun wx (hwx:Ext w wx)=>HKB.out wx (hm.x.trans hwx)
     have hx0:=hm.x
     refine rgE 13 53 ?_
     simp only [zTa]
     repeat (first
         | (apply walk_is rfl rfl rfl
            · (intro wx hwx;(with_reducible apply gq_row1 ((r1) wx hwx));infer_instance;exact rfl;exact P0.out)
            · (simp only [zPu];rfl))
         | (apply walk_is rfl rfl rfl
            · (intro wx hwx;(with_reducible apply gq_row1 ((r1) wx hwx));infer_instance;exact rfl;exact P1.out)
            · (simp only [zPu];rfl))
         | (apply walk_is rfl rfl rfl
            · (intro wx hwx;(with_reducible apply gq_rdW ((d0) wx hwx));infer_instance;exact rfl;(focus (first|rfl|omega|(simp;done)|(simp;omega))))
            · (simp only [zPu];rfl))
         | (apply walk_is rfl rfl rfl
            · (intro wx hwx;first|((with_reducible show qGl);exact zK (hm.ext hwx))|(go_simp;(try go_bits);first|exact gives_same|exact gives_skip|with_reducible exact gives_call (HB.out wx (hx0.trans hwx))))
            · (simp only [zPu];rfl))
         | (apply walk_not rfl rfl rfl
            · (simp only [zPu];rfl)))
     intro wz hwz
     simp only [zZi]
     repeat (first|rw [fin_is]|(rw [fin_cons];intro _ _))
     rw [fin_nil]
     try (replace hm:=hm.ext hwz)
     simp only [zPu]
     clear r1 d0 hx0
     go_wp2_with (first|((with_reducible show qSt);refine zE hm ?_;clear hm;intro w hm))
     simp only [zPu]
     go_roundw
     case rel=>exact⟨j,by omega,by go_num,by rw [←HX1.out];exact hm⟩
     case measure=>simp [intOf]<;>omega
theorem anum_dec(g:Nat)(k0 kl:List Byte)(ks:List (List Byte))(lo hi:BitVec 64)(w0:World)(h:AesR w0 g k0 ks kl):Gives Tryz.prog 180 #[.func (.func 181) #[.pointer (some ⟨g,0,none⟩)] #[],WV lo hi] w0 (WV (num (aesD k0 ks kl (putL lo 8++putL hi 8)) 0 8) (num (aesD k0 ks kl (putL lo 8++putL hi 8)) 8 8)):=by
 unfold Gives
 have hm:=Own.start w0
 have BB:=hid fun w=>bytes_any lo hi w
 have lP:(putL lo 8++putL hi 8).length=16:=by rw [List.length_append,putL_length,putL_length]
 have EN:=hid fun w (hx:Ext w0 w)=>decrypt_any g k0 kl ks (putL lo 8++putL hi 8) lP w (h.ext hx)
 have lE:=aesD_length k0 ks kl (putL lo 8++putL hi 8)
 obtain⟨Pb,hPb⟩:=exq (putL lo 8++putL hi 8)
 rw [←hPb]at BB lP EN lE⊢
 obtain⟨E,hE⟩:=exq (aesD k0 ks kl Pb)
 rw [←hE]at EN lE⊢
 have LD:=hid fun (w:World)(q:Option Addr)(d:Nat)(h:RdB w q E)=>(show Gives Tryz.prog 183 #[.slice q 16 d] w (WV (num E 0 8) (num E 8 8))from by
   have:=load_any E q d w h (by omega);rwa [lE]at this)
 have h1:=Nat.le_of_eq lE
 have h2:=Nat.le_of_eq lE.symm
 clear h hPb hE lP
 go_enter Tryz.func180,Tryz.ntmps180
 go_wp2_with (first|(go_at_call 186;(with_reducible refine(BB.out _).mono ?_);rintro e_ w ⟨rfl,hx_⟩;replace hm:=hm.ext hx_;clear hx_)|(go_at_call 181;(with_reducible refine(EN.out _ hm.x).mono ?_);rintro e_ w ⟨rfl,hx_⟩;replace hm:=hm.ext hx_;clear hx_)|(go_at_call 183;(with_reducible refine(LD.out _ _ _ (hm.rdB (l:=E) (by repeat (first|exact Has.hd|assumption|apply Has.tl|apply Has.app)))).mono ?_);rintro e_ w ⟨rfl,hx_⟩;replace hm:=hm.ext hx_;clear hx_)|((with_reducible show qLd);refine zB hm ?_)|((with_reducible show qSt);refine zE hm ?_;clear hm;intro w hm)|((first|((with_reducible show qAl);refine zG hm ?_)|((with_reducible show qBx);refine zH hm ?_));clear hm;intro gx_;intro w hm))
 refine rtO hm rfl rfl ⟨rfl,hm.x⟩
theorem hdec1_any(g gc:Nat)(k0 kl h l b:List Byte)(ks:List (List Byte))(hb:b.length=16)(w0:World)(hh:HcR w0 g k0 ks kl h l)(hc:Row w0 gc 100 [.pointer (some ⟨g,0,none⟩)]):Gives Tryz.prog 214 #[A8 b, .pointer (some ⟨gc,0,none⟩)] w0 (A8 (aesD k0 ks kl b)):=by
 unfold Gives
 have hm:=Own.start w0
 obtain⟨gk,h1,h2,_,_⟩:=hh
 have HR:=hid fun w (hx:Ext w0 w)=>row_ext h1 hx
 have HC:=hid fun w (hx:Ext w0 w)=>row_ext hc hx
 have EN:=hid fun w (hx:Ext w0 w)=>decrypt_any gk k0 kl ks b hb w (h2.ext hx)
 have lE:=aesD_length k0 ks kl b
 generalize aesD k0 ks kl b=E at*
 have EK:Hid ((hcC gk h l)[0]? =some (.pointer (some ⟨gk,0,none⟩))):=hid rfl
 obtain⟨PC,hPC⟩:=exq (hcC gk h l)
 rw [←hPC]at HR EK
 have h3:=Nat.le_of_eq hb
 have h4:=Nat.le_of_eq hb.symm
 have h5:=Nat.le_of_eq lE
 have h6:=Nat.le_of_eq lE.symm
 clear h1 h2 hc hPC hb
 go_enter Tryz.func214,Tryz.ntmps214
 go_wp2_with (first|((first|((with_reducible show qAl);refine zG hm ?_)|((with_reducible show qBx);refine zH hm ?_));clear hm;intro gx_;intro w hm))
 have hx0:=hm.x
 have a1:=fun wx (hwx:Ext w wx)=>EN.out wx (hx0.trans hwx)
 have R1:=hid fun wx (hwx:Ext w wx)=>HR.out wx (hx0.trans hwx)
 have R2:=hid fun wx (hwx:Ext w wx)=>HC.out wx (hx0.trans hwx)
 refine rgE 6 10 ?_
 simp only [zTa]
 repeat (first
     | (apply walk_is rfl rfl rfl
        · (intro wx hwx;(with_reducible apply gq_row1 ((R2.out) wx hwx));infer_instance;exact rfl;exact rfl)
        · (simp only [zPu];rfl))
     | (apply walk_is rfl rfl rfl
        · (intro wx hwx;(with_reducible apply gq_row1 ((R1.out) wx hwx));infer_instance;exact rfl;(exact EK.out))
        · (simp only [zPu];rfl))
     | (apply walk_is rfl rfl rfl
        · (intro wx hwx;first|((with_reducible show qGl);exact zK (hm.ext hwx))|(go_simp;(try go_bits);first|exact gives_same|exact gives_skip|with_reducible exact gives_call (a1 wx hwx)))
        · (simp only [zPu];rfl))
     | (apply walk_not rfl rfl rfl
        · (simp only [zPu];rfl)))
 intro wz hwz
 simp only [zZi]
 repeat (first|rw [fin_is]|(rw [fin_cons];intro _ _))
 rw [fin_nil]
 try (replace hm:=hm.ext hwz)
 simp only [zPu]
 clear a1 hx0
 go_wp2_with (first|((with_reducible show qSt);refine zE hm ?_;clear hm;intro w hm))
 refine rtO hm rfl rfl ⟨rfl,hm.x⟩
theorem hdec_any(g n:Nat)(k0 kl h l t m:List Byte)(ks:List (List Byte))(ht:t.length≤500)(hl:m.length=n+16)(hn:n<400)(p q:Option Addr)(c d:Nat)(hc:t.length≤c)(hd:n+16≤d)(w0:World)(hh:HcR w0 g k0 ks kl h l)(hr:RdB w0 p t)(hq:RdB w0 q m):
   Calls Tryz.prog 210 #[.pointer (some ⟨g,0,none⟩), .slice p t.length c, .slice q (n+16) d] w0 fun e w'=>∃v M R,e= .returned (.tuple #[v, .int .i64 0])∧Own w0 w' (M++R)∧SlO M 5 1 v (n+16) ((hcDo k0 ks kl h l (aesD k0 ks kl) t m).map v8):=by
 have hm:=Own.start w0
 have DO:=hid fun (gc:Nat)(w:World)(hx:Ext w0 w)(hc1:Row w gc 100 [.pointer (some ⟨g,0,none⟩)])=>hdoes_gen 214 (fun args w=>by kernel_rfl) g gc n k0 kl h l t m ks (aesD k0 ks kl) (fun x=>aesD_length _ _ _ _) ht hl hn p q c d hc hd w (hh.ext hx) (hr.ext hx) (hq.ext hx) (fun wx hwx b hb=>hdec1_any g gc k0 kl h l b ks hb wx ((hh.ext hx).ext hwx) (row_ext hc1 hwx))
 generalize hcDo k0 ks kl h l (aesD k0 ks kl) t m=OUT at*
 obtain⟨TL,hTL⟩:=exq (t.length)
 rw [←hTL]at DO⊢
 clear hr hq hh hl ht hc hTL
 go_enter Tryz.func210,Tryz.ntmps210
 go_wp2_with (first|((with_reducible apply wq_box1 (v:= .pointer (some ⟨g,0,none⟩)) hm);exact rfl;exact rfl;exact rfl;clear hm;intro g1 w hm)|((with_reducible show qLd);refine zC hm ?_))
 refine(DO.out g1 w hm.x (hm.row .hd)).mono ?_
 rintro e_ w ⟨v5,M5,R5,rfl,hm1,hs5⟩
 replace hm:=hm1.rebase hm.x
 clear hm1
 go_wp2_with fail
 go_ret2
 exact⟨_,M5,_,rfl,hm,hs5⟩
def aezD(key t m:List Byte):List Byte:=tinyL (eZ (keyOf key)) (hashG (eZ (keyOf key)) [t]) true m
theorem adec_any(g n:Nat)(P:AdP)(t m:List Byte)(ht:t.length≤70368744177000)(hl:m.length=n+16)(hn:n<400)(p q:Option Addr)(c d:Nat)(hc:t.length≤c)(hd:n+16≤d)(w0:World)(h:AdiP w0 g P)(hr:RdB w0 p t)(hq:RdB w0 q m):
   Calls Tryz.prog 173 #[.pointer (some ⟨g,0,none⟩), .slice p t.length c, .slice q (n+16) d] w0 fun e w'=>∃v M R,e= .returned (.tuple #[v, .int .i64 0])∧Own w0 w' (M++R)∧SlO M 5 1 v (n+16) ((adDe P t m n).map v8):=by
 have hm:=Own.start w0
 obtain⟨gk,gs,h1,hk,h2,h3⟩:=h
 have HR:=hid fun w (hx:Ext w0 w)=>row_ext h1 hx
 have EK:=hid (adiC_k P.key (some ⟨gk,0,none⟩) (some ⟨gs,0,none⟩) hk)
 have ES:=hid (adiC_s P.key (some ⟨gk,0,none⟩) (some ⟨gs,0,none⟩) hk)
 have PA:=hid fun w (hx:Ext w0 w)=>aparts_any m n hl hn q d hd w (hq.ext hx)
 have lB0:(m.take n).length=n:=by rw [List.length_take];omega
 have lB1:=adBulkD_length P t m n (by omega)
 have S1:=hid fun (w:World)(hx:Ext w0 w)(q2:Option Addr)(d2:Nat)(hq2:RdB w q2 (m.take n))=>(show Gives Tryz.prog 177 #[.pointer (some ⟨gs,0,none⟩), .slice p t.length c, .slice q2 n d2] w (WV (adSum P t (m.take n)).1 (adSum P t (m.take n)).2)from by
   have:=asum_any gs P.tw P.ms t (m.take n) P.W ht (by omega) p q2 c d2 hc w (h3.ext hx) (hr.ext hx) hq2
   rwa [lB0]at this)
 have PL:=hid fun w=>(show Gives Tryz.prog 132 #[WV (num (rgt m n) 0 8) (num (rgt m n) 8 8),WV (adSum P t (m.take n)).1 (adSum P t (m.take n)).2] w (WV (adMidD P t m n).1 (adMidD P t m n).2)from oplus_any _ _ _ _ w)
 have NU:=hid fun w (hx:Ext w0 w)=>(show Gives Tryz.prog 180 #[.func (.func 181) #[.pointer (some ⟨gk,0,none⟩)] #[],WV (adMidD P t m n).1 (adMidD P t m n).2] w (WV (wOf (aesD P.k0 P.ks P.kl (wBytes (adMidD P t m n)))).1 (wOf (aesD P.k0 P.ks P.kl (wBytes (adMidD P t m n)))).2)from anum_dec gk P.k0 P.kl P.ks _ _ w (h2.ext hx))
 have ST:=hid fun (w:World)(hx:Ext w0 w)(q2:Option Addr)(d2:Nat)(hd2:n≤d2)(hq2:RdB w q2 (m.take n))=>(show Calls Tryz.prog 178 #[.pointer (some ⟨g,0,none⟩),WV (adMidD P t m n).1 (adMidD P t m n).2, .slice q2 n d2] w fun e w'=>∃p c,e= .returned (.slice p n c)∧n≤c∧RdB w' p (adBulkD P t m n)∧Ext w w' from by
   have:=astream_any g P.key (m.take n) (some ⟨gk,0,none⟩) (some ⟨gs,0,none⟩) (adMidD P t m n).1 (adMidD P t m n).2 hk (by omega) q2 d2 (by omega) w (row_ext h1 hx) hq2
   rw [lB0]at this
   exact this)
 have S2:=hid fun (w:World)(hx:Ext w0 w)(q2:Option Addr)(d2:Nat)(hq2:RdB w q2 (adBulkD P t m n))=>(show Gives Tryz.prog 177 #[.pointer (some ⟨gs,0,none⟩), .slice p t.length c, .slice q2 n d2] w (WV (adSum P t (adBulkD P t m n)).1 (adSum P t (adBulkD P t m n)).2)from by
   have:=asum_any gs P.tw P.ms t (adBulkD P t m n) P.W ht (by omega) p q2 c d2 hc w (h3.ext hx) (hr.ext hx) hq2
   rwa [lB1]at this)
 have MI:=hid fun w=>(show Gives Tryz.prog 182 #[WV (wOf (aesD P.k0 P.ks P.kl (wBytes (adMidD P t m n)))).1 (wOf (aesD P.k0 P.ks P.kl (wBytes (adMidD P t m n)))).2,WV (adSum P t (adBulkD P t m n)).1 (adSum P t (adBulkD P t m n)).2] w (WV (wMinus (wOf (aesD P.k0 P.ks P.kl (wBytes (adMidD P t m n)))) (adSum P t (adBulkD P t m n))).1 (wMinus (wOf (aesD P.k0 P.ks P.kl (wBytes (adMidD P t m n)))) (adSum P t (adBulkD P t m n))).2)from ominus_any _ _ _ _ w)
 have JO:=hid fun (w wx:World)(hx:Ext w wx)(q2:Option Addr)(d2:Nat)(hd2:n≤d2)(hq2:RdB wx q2 (adBulkD P t m n))=>(show GivesR Tryz.prog 179 #[.slice q2 n d2,WV (wMinus (wOf (aesD P.k0 P.ks P.kl (wBytes (adMidD P t m n)))) (adSum P t (adBulkD P t m n))).1 (wMinus (wOf (aesD P.k0 P.ks P.kl (wBytes (adMidD P t m n)))) (adSum P t (adBulkD P t m n))).2] wx (NewL w.heap.size (n+16) (adDe P t m n))from by
   have h0:=ajoined_any (adBulkD P t m n) (wMinus (wOf (aesD P.k0 P.ks P.kl (wBytes (adMidD P t m n)))) (adSum P t (adBulkD P t m n))).1 (wMinus (wOf (aesD P.k0 P.ks P.kl (wBytes (adMidD P t m n)))) (adSum P t (adBulkD P t m n))).2 (by omega) q2 d2 (by omega) wx hq2
   rw [lB1]at h0
   refine Calls.mono h0 ?_
   rintro e w' ⟨v,M,R,rfl,hm1,hs⟩
   exact⟨v,rfl,newL_of (by omega) hx.size hm1 hs,hm1.x⟩)
 have AW:=hid fun w=>awrong_any g q (n+16) d (by omega) w
 generalize (adSum P t (m.take n)).1=s1 at*
 generalize (adSum P t (m.take n)).2=s2 at*
 generalize num (rgt m n) 0 8=r1 at*
 generalize num (rgt m n) 8 8=r2 at*
 generalize (wMinus (wOf (aesD P.k0 P.ks P.kl (wBytes (adMidD P t m n)))) (adSum P t (adBulkD P t m n))).1=y1 at*
 generalize (wMinus (wOf (aesD P.k0 P.ks P.kl (wBytes (adMidD P t m n)))) (adSum P t (adBulkD P t m n))).2=y2 at*
 generalize (adSum P t (adBulkD P t m n)).1=u1 at*
 generalize (adSum P t (adBulkD P t m n)).2=u2 at*
 generalize (wOf (aesD P.k0 P.ks P.kl (wBytes (adMidD P t m n)))).1=v1 at*
 generalize (wOf (aesD P.k0 P.ks P.kl (wBytes (adMidD P t m n)))).2=v2 at*
 generalize (adMidD P t m n).1=e1 at*
 generalize (adMidD P t m n).2=e2 at*
 generalize adDe P t m n=OUT at*
 generalize adBulkD P t m n=B1 at*
 generalize m.take n=B0 at*
 generalize adiC P.key (some ⟨gk,0,none⟩) (some ⟨gs,0,none⟩)=PC at*
 obtain⟨TL,hTL⟩:=exq (t.length)
 rw [←hTL]at S1 S2⊢
 have LB0:=hid lB0
 have LB1:=hid lB1
 clear h1 h2 h3 hr hq ht hl hk hc hTL lB0 lB1
 go_enter Tryz.func173,Tryz.ntmps173
 go_wp2_with (first|(go_at_call 175;(with_reducible refine(AW.out _).mono ?_);rintro e_ w_ ⟨rfl,rfl⟩)|(go_at_call 176;(with_reducible refine(PA.out _ hm.x).mono ?_);rintro e_ w ⟨v1,M1,R1,rfl,hm1,hs1⟩;replace hm:=hm.join hm1;obtain⟨p1,c1,rfl⟩:=hs1.form;clear hm1)|((with_reducible show qSt);refine zE hm ?_;clear hm;intro w hm)|(((with_reducible show qAl);refine zG hm ?_);clear hm;intro gx_;intro w hm))
 rw [List.append_nil]at hm
 have HS1:=hid hs1
 have RB:=hid fun wx L (h:Own w0 wx (L++(M1++R1)))=>slo_rdZ hs1 h.dropN
 have c16:n≤c1:=by
   obtain⟨_,_,hv,h1,_⟩:=hs1.cells hm.drop
   cases hv
   exact h1
 clear hs1
 have hx0:=hm.x
 have hmA:=hm
 have a1:=fun wx (hwx:Ext w wx)=>S1.out wx (hx0.trans hwx) p1 c1 (RB.out wx [_] (hmA.ext hwx))
 have a2:=fun wx (hwx:Ext w wx)=>PL.out wx
 have R5:=hid fun wx (hwx:Ext w wx)=>HR.out wx (hx0.trans hwx)
 refine region_new 10 (fun w'=>Ext _ w') 53 (by kernel_rfl) (by kernel_rfl) rfl (fun _ _ h k=>h.trans k) (drew_ext _) ?_
 simp only [zTa]
 repeat (first
     | (apply walk_some (NewS (w.heap.size) 191 ([v64 0#64,v64 0#64])) 11 (NewS.stable _ _ _) rfl rfl rfl rfl
        · (intro wx hwx;go_simp;exact gives_new (cs:=[v64 0#64,v64 0#64]) hwx.size))
     | (apply walk_is rfl rfl rfl
        · (intro wx hwx;(with_reducible apply gq_row1 ((R5.out) wx hwx));infer_instance;exact rfl;(first|exact EK.out|exact ES.out))
        · (simp only [zPu];rfl))
     | (apply walk_is rfl rfl rfl
        · (intro wx hwx;first|((with_reducible show qGl);exact zK (hm.ext hwx))|(go_simp;(try go_bits);first|exact gives_same|exact gives_skip|with_reducible exact gives_call (a1 wx hwx)|with_reducible exact gives_call (a2 wx hwx)))
        · (simp only [zPu];rfl))
     | (apply walk_not rfl rfl rfl
        · (simp only [zPu];rfl)))
 intro wz hwz
 simp only [zZi]
 repeat rw [fin_is]
 rw [fin_cons];intro x11 hx11
 repeat rw [fin_is]
 rw [fin_nil];intro hap
 simp only [zPu]at hap⊢
 obtain⟨g11_,rfl,hg11,hr11⟩:=hx11
 replace hm:=hm.push hwz hg11 hr11
 clear hap hr11
 clear a1 a2 hmA hx0 R5
 go_wp2_with (first|((with_reducible show qLd);refine zB hm ?_)|((with_reducible show qSt);refine zE hm ?_;clear hm;intro w hm))
 refine(ST.out w hm.x p1 c1 c16 (RB.out w [_,_] hm)).mono ?_
 rintro e_ w ⟨p2,c2,rfl,hc2,hr2,hx_⟩
 replace hm:=hm.ext hx_
 clear hx_
 have HR2:=hid hr2
 clear hr2
 go_wp2_with fail
 have hx0:=hm.x
 have hmA:=hm
 have a1:=fun wx (hwx:Ext w wx)=>S2.out wx (hx0.trans hwx) p2 c2 (HR2.out.ext hwx)
 have a2:=fun wx (hwx:Ext w wx)=>MI.out wx
 have a4:=fun wx (hwx:Ext w wx)=>NU.out wx (hx0.trans hwx)
 have a3:=fun wx (hwx:Ext w wx)=>JO.out w wx hwx p2 c2 hc2 (HR2.out.ext hwx)
 have R5:=hid fun wx (hwx:Ext w wx)=>HR.out wx (hx0.trans hwx)
 refine region_new 17 (fun w'=>Ext _ w') 53 (by kernel_rfl) (by kernel_rfl) rfl (fun _ _ h k=>h.trans k) (drew_ext _) ?_
 simp only [zTa]
 repeat (first
     | (apply walk_is rfl rfl rfl
        · (intro wx hwx;(with_reducible apply gq_row1 ((R5.out) wx hwx));infer_instance;exact rfl;(first|exact EK.out|exact ES.out))
        · (simp only [zPu];rfl))
     | (apply walk_some (NewL w.heap.size (n+16) OUT) 52 (NewL.stable _ _ _) rfl rfl rfl rfl
        · (intro wx hwx;go_simp;with_reducible exact gives_callR (a3 wx hwx)))
     | (apply walk_is rfl rfl rfl
        · (intro wx hwx;first|((with_reducible show qGl);exact zK (hm.ext hwx))|(go_simp;(try go_bits);first|exact gives_same|exact gives_skip|with_reducible exact gives_call (a1 wx hwx)|with_reducible exact gives_call (a2 wx hwx)|with_reducible exact gives_call (a4 wx hwx)))
        · (simp only [zPu];rfl))
     | (apply walk_not rfl rfl rfl
        · (simp only [zPu];rfl)))
 intro wz hwz
 simp only [zZi]
 repeat rw [fin_is]
 rw [fin_cons];intro x52 hx52
 repeat rw [fin_is]
 rw [fin_nil];intro hap
 simp only [zPu]at hap⊢
 obtain⟨gj,oj,dj,cur,rfl,hgj,hrj,hsj⟩:=hx52
 clear hm a1 a2 a3 a4 hap hx0 R5
 have hm:=hmA.push hwz hgj hrj
 clear hmA hwz hgj hrj
 have HSJ:=hid hsj
 clear hsj
 go_wp2_with fail
 go_ret2
 exact⟨_,[⟨gj,5,cur⟩],_,rfl,hm,HSJ.out⟩
end Go.Proofs.YtneacgpmjlocjaaGreatDoor
