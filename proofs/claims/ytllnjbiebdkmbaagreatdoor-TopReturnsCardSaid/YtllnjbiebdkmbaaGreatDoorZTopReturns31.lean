/-
  Texts of the program, walked, and plain ones. Conditions: those written in each theorem.
-/
import Derived.Test.YtllnjbiebdkmbaaGreatDoorZTopReturns0
import Derived.Test.YtllnjbiebdkmbaaGreatDoorZTopReturns30
import Derived.Test.YtllnjbiebdkmbaaGreatDoorZTopReturns14
set_option linter.unusedSimpArgs false
set_option linter.unusedVariables false
set_option maxHeartbeats 16000000
namespace Go.Proofs.YtllnjbiebdkmbaaGreatDoor
open Go Go.RowKit
set_option maxRecDepth 100000
theorem anum_dec(g:Nat)(k0 kl:List Byte)(ks:List (List Byte))(lo hi:BitVec 64)(w0:World)(h:AesR w0 g k0 ks kl):Gives Tryz.prog 121 #[.func (.func 122) #[.pointer (some ⟨g,0,none⟩)] #[],WV lo hi] w0 (WV (num (aesD k0 ks kl (putL lo 8++putL hi 8)) 0 8) (num (aesD k0 ks kl (putL lo 8++putL hi 8)) 8 8)):=by
 unfold Gives
 have hm:=Own.start w0
 have BB:=Lib.hid fun w=>bytes_any lo hi w
 have lP:(putL lo 8++putL hi 8).length=16:=by rw [List.length_append,putL_length,putL_length]
 have EN:=Lib.hid fun w (hx:Ext w0 w)=>decrypt_any g k0 kl ks (putL lo 8++putL hi 8) lP w (h.ext hx)
 have lE:=aesD_length k0 ks kl (putL lo 8++putL hi 8)
 obtain⟨Pb,hPb⟩:∃x,x=putL lo 8++putL hi 8:=⟨_,rfl⟩
 rw [←hPb]at BB lP EN lE⊢
 obtain⟨E,hE⟩:∃x,x=aesD k0 ks kl Pb:=⟨_,rfl⟩
 rw [←hE]at EN lE⊢
 have LD:=Lib.hid fun (w:World)(q:Option Addr)(d:Nat)(h:RdB w q E)=>(show Gives Tryz.prog 125 #[.slice q 16 d] w (WV (num E 0 8) (num E 8 8))from by
   have:=load_any E q d w h (by omega);rwa [lE]at this)
 have h1:=Nat.le_of_eq lE
 have h2:=Nat.le_of_eq lE.symm
 clear h hPb hE lP
 go_enter Tryz.func121,Tryz.ntmps121
 go_wp2_with (first|(go_at_call 32;(with_reducible refine(BB.out _).mono ?_);rintro e_ w ⟨rfl,hx_⟩;replace hm:=hm.ext hx_;clear hx_)|(go_at_call 122;(with_reducible refine(EN.out _ hm.x).mono ?_);rintro e_ w ⟨rfl,hx_⟩;replace hm:=hm.ext hx_;clear hx_)|(go_at_call 125;(with_reducible refine(LD.out _ _ _ (hm.rdB (l:=E) (by repeat (first|exact Has.hd|assumption|apply Has.tl|apply Has.app)))).mono ?_);rintro e_ w ⟨rfl,hx_⟩;replace hm:=hm.ext hx_;clear hx_)|((with_reducible show qLd);first|((with_reducible apply wq_ldW hm);exact rfl;infer_instance;exact rfl;(focus ((repeat (first|exact .hd|assumption|apply Has.tl|apply Has.app));done));(focus (first|rfl|omega|(simp;done)|(simp;omega)))))|((((with_reducible show qSt);first|((with_reducible apply wq_stW hm);exact rfl;infer_instance;exact rfl;exact rfl;(focus ((repeat (first|exact .hd|assumption|apply Swap.tl|apply Swap.app));done));(focus (first|rfl|omega|(simp;done)|(simp;omega)));(focus (first|rfl|omega|(simp;done)|(simp;omega)));(focus (first|exact one_map _|(simp [one8,one32,one64];done))))));clear hm;intro w hm)|((first|((with_reducible show qAl);first|((with_reducible apply wq_new hm);exact rfl;infer_instance))|((with_reducible show qBx);first|((with_reducible apply wq_boxN hm);exact rfl;exact rfl)));clear hm;intro gx_;intro w hm))
 refine rtO hm rfl rfl (hR:=⟨rfl,hm.x⟩)
theorem hdec1_any(g gc:Nat)(k0 kl h l b:List Byte)(ks:List (List Byte))(hb:b.length=16)(w0:World)(hh:HcR w0 g k0 ks kl h l)(hc:Row w0 gc 99 [.pointer (some ⟨g,0,none⟩)]):Gives Tryz.prog 159 #[A8 b, .pointer (some ⟨gc,0,none⟩)] w0 (A8 (aesD k0 ks kl b)):=by
 unfold Gives
 have hm:=Own.start w0
 obtain⟨gk,h1,h2,_,_⟩:=hh
 have HR:=Lib.hid fun w (hx:Ext w0 w)=>row_ext h1 hx
 have HC:=Lib.hid fun w (hx:Ext w0 w)=>row_ext hc hx
 have EN:=Lib.hid fun w (hx:Ext w0 w)=>decrypt_any gk k0 kl ks b hb w (h2.ext hx)
 have lE:=aesD_length k0 ks kl b
 generalize aesD k0 ks kl b=E at*
 have EK:Hid ((hcC gk h l)[0]? =some (.pointer (some ⟨gk,0,none⟩))):=Lib.hid rfl
 obtain⟨PC,hPC⟩:∃x,x=hcC gk h l:=⟨_,rfl⟩
 rw [←hPC]at HR EK
 have h3:=Nat.le_of_eq hb
 have h4:=Nat.le_of_eq hb.symm
 have h5:=Nat.le_of_eq lE
 have h6:=Nat.le_of_eq lE.symm
 clear h1 h2 hc hPC hb
 go_enter Tryz.func159,Tryz.ntmps159
 go_wp2_with (first|((first|((with_reducible show qAl);first|((with_reducible apply wq_new hm);exact rfl;infer_instance))|((with_reducible show qBx);first|((with_reducible apply wq_boxN hm);exact rfl;exact rfl)));clear hm;intro gx_;intro w hm))
 have hx0:=hm.x
 have a1:=fun wx (hwx:Ext w wx)=>EN.out wx (hx0.trans hwx)
 have R1:=Lib.hid fun wx (hwx:Ext w wx)=>HR.out wx (hx0.trans hwx)
 have R2:=Lib.hid fun wx (hwx:Ext w wx)=>HC.out wx (hx0.trans hwx)
 refine region_at 6 (fun w'=>Ext _ w') 10 (by kernel_rfl) (by kernel_rfl) rfl (fun _ _ h k=>h.trans k) (drew_ext _) ?_
 simp only [tSC,List.take_zero,dSC,List.drop_zero,List.map_cons,List.map_nil]
 repeat (first
     | (apply walk_is rfl rfl rfl
        · (intro wx hwx;(with_reducible apply gq_row1 ((R2.out) wx hwx));infer_instance;exact rfl;exact rfl)
        · (simp only [Act.put,sIB,sCS,sCZ];rfl))
     | (apply walk_is rfl rfl rfl
        · (intro wx hwx;(with_reducible apply gq_row1 ((R1.out) wx hwx));infer_instance;exact rfl;(exact EK.out))
        · (simp only [Act.put,sIB,sCS,sCZ];rfl))
     | (apply walk_is rfl rfl rfl
        · (intro wx hwx;first|((with_reducible show gives _ _ _ (Sem.run _ (execOp _ (Oper.mk _ (Op.load _ _) _ _ _ _)) _));first|((with_reducible apply gq_ldW (hm.ext hwx));infer_instance;exact rfl;(focus ((repeat (first|exact .hd|assumption|apply Has.tl|apply Has.app));done));(focus (first|rfl|omega|(simp;done)|(simp;omega)))))|(go_simp;(try go_bits);first|exact gives_same|exact gives_skip|with_reducible exact gives_call (a1 wx hwx)))
        · (simp only [Act.put,sIB,sCS,sCZ];rfl))
     | (apply walk_not rfl rfl rfl
        · (simp only [Act.put,sIB,sCS,sCZ];rfl)))
 intro wz hwz
 simp only [zCC,zNR]
 repeat (first|rw [fin_is]|(rw [fin_cons];intro _ _))
 rw [fin_nil]
 try (replace hm:=hm.ext hwz)
 simp only [Act.put,sIB,sCS,sCZ]
 clear a1 hx0
 go_wp2_with (first|((((with_reducible show qSt);first|((with_reducible apply wq_stW hm);exact rfl;infer_instance;exact rfl;exact rfl;(focus ((repeat (first|exact .hd|assumption|apply Swap.tl|apply Swap.app));done));(focus (first|rfl|omega|(simp;done)|(simp;omega)));(focus (first|rfl|omega|(simp;done)|(simp;omega)));(focus (first|exact one_map _|(simp [one8,one32,one64];done))))));clear hm;intro w hm))
 refine rtO hm rfl rfl (hR:=⟨rfl,hm.x⟩)
theorem hdec_any(g n:Nat)(k0 kl h l t m:List Byte)(ks:List (List Byte))(ht:t.length≤500)(hl:m.length=n+16)(hn:n<400)(p q:Option Addr)(c d:Nat)(hc:t.length≤c)(hd:n+16≤d)(w0:World)(hh:HcR w0 g k0 ks kl h l)(hr:RdB w0 p t)(hq:RdB w0 q m):
   Calls Tryz.prog 155 #[.pointer (some ⟨g,0,none⟩), .slice p t.length c, .slice q (n+16) d] w0 fun e w'=>∃v M R,e= .returned (.tuple #[v, .int .i64 0])∧Own w0 w' (M++R)∧SlO M 5 1 v (n+16) ((hcDo k0 ks kl h l (aesD k0 ks kl) t m).map v8):=by
 have hm:=Own.start w0
 have DO:=Lib.hid fun (gc:Nat)(w:World)(hx:Ext w0 w)(hc1:Row w gc 99 [.pointer (some ⟨g,0,none⟩)])=>hdoes_gen 159 (fun args w=>by kernel_rfl) g gc n k0 kl h l t m ks (aesD k0 ks kl) (fun x=>aesD_length _ _ _ _) ht hl hn p q c d hc hd w (hh.ext hx) (hr.ext hx) (hq.ext hx) (fun wx hwx b hb=>hdec1_any g gc k0 kl h l b ks hb wx ((hh.ext hx).ext hwx) (row_ext hc1 hwx))
 generalize hcDo k0 ks kl h l (aesD k0 ks kl) t m=OUT at*
 obtain⟨TL,hTL⟩:∃x,x=t.length:=⟨_,rfl⟩
 rw [←hTL]at DO⊢
 clear hr hq hh hl ht hc hTL
 go_enter Tryz.func155,Tryz.ntmps155
 go_wp2_with (first|((with_reducible apply wq_box1 (v:= .pointer (some ⟨g,0,none⟩)) hm);exact rfl;exact rfl;exact rfl;clear hm;intro g1 w hm)|((with_reducible show qLd);first|((with_reducible apply wq_ld1 hm);exact rfl;infer_instance;exact rfl;(focus ((repeat (first|exact .hd|assumption|apply Has.tl|apply Has.app));done));exact rfl)))
 refine(DO.out g1 w hm.x (hm.row .hd)).mono ?_
 rintro e_ w ⟨v5,M5,R5,rfl,hm1,hs5⟩
 replace hm:=hm1.rebase hm.x
 clear hm1
 go_wp2_with fail
 go_ret2
 exact⟨_,M5,_,rfl,hm,hs5⟩
def aezD(key t m:List Byte):List Byte:=tinyL (eZ (keyOf key)) (hashG (eZ (keyOf key)) [t]) true m
theorem ezrowD_any(g:Nat)(key t m:List Byte)(h1:1≤m.length)(h31:m.length≤31)(ht:t.length≤500)(q p:Option Addr)(d c:Nat)(hd:1≤d)(hc:m.length≤c)(w0:World)(hk:KeyR w0 g (keyOf key))(hr:RdR w0 q [t])(hq:RdB w0 p m):
   Calls Tryz.prog 182 #[.agg #[.pointer (some ⟨g,0,none⟩)], .slice q 1 d, .slice p m.length c, .bool true] w0 fun e w'=>∃px cx,e= .returned (.tuple #[.slice px m.length cx, .int .i64 0])∧m.length≤cx∧RdB w' px (aezD key t m)∧Ext w0 w':=by
 have hm:=Own.start w0
 have TT:=Lib.hid fun (w:World)(hx:Ext w0 w)=>tturn_back g (eZ (keyOf key)) (eZ_length (keyOf key)) [t] q d m p c w (hr.ext hx) hd (show 1≤70368744177000 from by omega) (fun i=>by match i with|0=>exact Nat.le_trans ht (by omega)|i+1=>exact Nat.zero_le _) (hq.ext hx) hc h1 h31 (fun wx hwx j n x e1 e2 e3=>((hk.ext hx).ext hwx).e j n x e1 e2 e3)
 rw [show(tinyL (eZ (keyOf key)) (hashG (eZ (keyOf key)) [t]) true m)=aezD key t m from rfl,show([t]:List (List Byte)).length=1 from rfl]at TT
 have d1:decide ((m.length:Int)<32)=true:=decide_eq_true (by omega)
 have d2:(m.length:Int)<32:=by omega
 obtain⟨X,hX⟩:∃x,x=aezD key t m:=⟨_,rfl⟩
 rw [←hX]at TT⊢
 obtain⟨n,hn⟩:∃x,x=m.length:=⟨_,rfl⟩
 rw [←hn]at TT d1 d2⊢
 clear hX hn hq hr hk h1 h31 hc ht hd
 go_enter Tryz.func182,Tryz.ntmps182
 go_wp2_with (first|((with_reducible apply wq_boxN (cs:=[.pointer (some ⟨g,0,none⟩)]) hm);exact rfl;exact rfl;clear hm;intro gz w hm)|((with_reducible show qLd);first|((with_reducible apply wq_ld1 hm);exact rfl;infer_instance;exact rfl;(focus ((repeat (first|exact .hd|assumption|apply Has.tl|apply Has.app));done));exact rfl)))
 refine(TT.out w hm.x).mono ?_
 rintro e_ w ⟨px,cx,rfl,hcx,hpx,hx_⟩
 replace hm:=hm.ext hx_
 clear hx_
 go_wp2_with fail
 go_ret2
 exact⟨px,cx,rfl,hcx,hpx,hm.x⟩
theorem ezdec_any(g:Nat)(key t m:List Byte)(h1:1≤m.length)(h31:m.length≤31)(ht:t.length≤500)(q p:Option Addr)(d c:Nat)(hd:t.length≤d)(hc:m.length≤c)(w0:World)(hk:KeyR w0 g (keyOf key))(hr:RdB w0 q t)(hq:RdB w0 p m):
   Calls Tryz.prog 180 #[.agg #[.pointer (some ⟨g,0,none⟩)], .slice q t.length d, .slice p m.length c] w0 fun e w'=>∃px cx,e= .returned (.tuple #[.slice px m.length cx, .int .i64 0])∧m.length≤cx∧RdB w' px (aezD key t m)∧Ext w0 w':=by
 have hm:=Own.start w0
 have lt:t.length≤maxLen:=Nat.le_trans ht (by decide)
 have TT:=Lib.hid fun (gr:Nat)(w:World)(hx:Ext w0 w)(hr1:Row w gr 22 [.slice q t.length d])=>ezrowD_any g key t m h1 h31 ht (some ⟨gr,0,none⟩) p 1 c (Nat.le_refl _) hc w (hk.ext hx) (rdR1 hr1 (hr.ext hx) hd lt) (hq.ext hx)
 have BS:=Lib.hid (bs_s1 q t.length d)
 obtain⟨X,hX⟩:∃x,x=aezD key t m:=⟨_,rfl⟩
 rw [←hX]at TT⊢
 obtain⟨n,hn⟩:∃x,x=m.length:=⟨_,rfl⟩
 rw [←hn]at TT⊢
 obtain⟨k,hk0⟩:∃x,x=t.length:=⟨_,rfl⟩
 rw [←hk0]at TT BS⊢
 clear hX hn hq hr hk h1 h31 hc ht hd lt hk0
 go_enter Tryz.func180,Tryz.ntmps180
 go_wp2_with (first|((with_reducible apply wq_boxN (cs:=[.pointer (some ⟨g,0,none⟩)]) hm);exact rfl;exact rfl;clear hm;intro gz w hm)|((with_reducible apply wq_bs1g (BS.out) hm);exact rfl;exact rfl;clear hm;intro gb w hm)|((with_reducible show qLd);first|((with_reducible apply wq_ldW hm);exact rfl;infer_instance;exact rfl;(focus ((repeat (first|exact .hd|assumption|apply Has.tl|apply Has.app));done));(focus (first|rfl|omega|(simp;done)|(simp;omega))))))
 refine(TT.out gb w hm.x (hm.row .hd)).mono ?_
 rintro e_ w ⟨px,cx,rfl,hcx,hpx,hx_⟩
 replace hm:=hm.ext hx_
 clear hx_
 go_wp2_with fail
 go_ret2
 exact⟨px,cx,rfl,hcx,hpx,hm.x⟩
theorem adec_any(g n:Nat)(P:AdP)(t m:List Byte)(ht:t.length≤70368744177000)(hl:m.length=n+16)(hn:n<400)(p q:Option Addr)(c d:Nat)(hc:t.length≤c)(hd:n+16≤d)(w0:World)(h:AdiP w0 g P)(hr:RdB w0 p t)(hq:RdB w0 q m):
   Calls Tryz.prog 114 #[.pointer (some ⟨g,0,none⟩), .slice p t.length c, .slice q (n+16) d] w0 fun e w'=>∃v M R,e= .returned (.tuple #[v, .int .i64 0])∧Own w0 w' (M++R)∧SlO M 5 1 v (n+16) ((adDe P t m n).map v8):=by
 have hm:=Own.start w0
 obtain⟨gk,gs,h1,hk,h2,h3⟩:=h
 have HR:=Lib.hid fun w (hx:Ext w0 w)=>row_ext h1 hx
 have EK:=Lib.hid (adiC_k P.key (some ⟨gk,0,none⟩) (some ⟨gs,0,none⟩) hk)
 have ES:=Lib.hid (adiC_s P.key (some ⟨gk,0,none⟩) (some ⟨gs,0,none⟩) hk)
 have PA:=Lib.hid fun w (hx:Ext w0 w)=>aparts_any m n hl hn q d hd w (hq.ext hx)
 have lB0:(m.take n).length=n:=by rw [List.length_take];omega
 have lB1:=adBulkD_length P t m n (by omega)
 have S1:=Lib.hid fun (w:World)(hx:Ext w0 w)(q2:Option Addr)(d2:Nat)(hq2:RdB w q2 (m.take n))=>(show Gives Tryz.prog 118 #[.pointer (some ⟨gs,0,none⟩), .slice p t.length c, .slice q2 n d2] w (WV (adSum P t (m.take n)).1 (adSum P t (m.take n)).2)from by
   have:=asum_any gs P.tw P.ms t (m.take n) P.W ht (by omega) p q2 c d2 hc w (h3.ext hx) (hr.ext hx) hq2
   rwa [lB0]at this)
 have PL:=Lib.hid fun w=>(show Gives Tryz.prog 85 #[WV (num (rgt m n) 0 8) (num (rgt m n) 8 8),WV (adSum P t (m.take n)).1 (adSum P t (m.take n)).2] w (WV (adMidD P t m n).1 (adMidD P t m n).2)from oplus_any _ _ _ _ w)
 have NU:=Lib.hid fun w (hx:Ext w0 w)=>(show Gives Tryz.prog 121 #[.func (.func 122) #[.pointer (some ⟨gk,0,none⟩)] #[],WV (adMidD P t m n).1 (adMidD P t m n).2] w (WV (wOf (aesD P.k0 P.ks P.kl (wBytes (adMidD P t m n)))).1 (wOf (aesD P.k0 P.ks P.kl (wBytes (adMidD P t m n)))).2)from anum_dec gk P.k0 P.kl P.ks _ _ w (h2.ext hx))
 have ST:=Lib.hid fun (w:World)(hx:Ext w0 w)(q2:Option Addr)(d2:Nat)(hd2:n≤d2)(hq2:RdB w q2 (m.take n))=>(show Calls Tryz.prog 119 #[.pointer (some ⟨g,0,none⟩),WV (adMidD P t m n).1 (adMidD P t m n).2, .slice q2 n d2] w fun e w'=>∃p c,e= .returned (.slice p n c)∧n≤c∧RdB w' p (adBulkD P t m n)∧Ext w w' from by
   have:=astream_any g P.key (m.take n) (some ⟨gk,0,none⟩) (some ⟨gs,0,none⟩) (adMidD P t m n).1 (adMidD P t m n).2 hk (by omega) q2 d2 (by omega) w (row_ext h1 hx) hq2
   rw [lB0]at this
   exact this)
 have S2:=Lib.hid fun (w:World)(hx:Ext w0 w)(q2:Option Addr)(d2:Nat)(hq2:RdB w q2 (adBulkD P t m n))=>(show Gives Tryz.prog 118 #[.pointer (some ⟨gs,0,none⟩), .slice p t.length c, .slice q2 n d2] w (WV (adSum P t (adBulkD P t m n)).1 (adSum P t (adBulkD P t m n)).2)from by
   have:=asum_any gs P.tw P.ms t (adBulkD P t m n) P.W ht (by omega) p q2 c d2 hc w (h3.ext hx) (hr.ext hx) hq2
   rwa [lB1]at this)
 have MI:=Lib.hid fun w=>(show Gives Tryz.prog 123 #[WV (wOf (aesD P.k0 P.ks P.kl (wBytes (adMidD P t m n)))).1 (wOf (aesD P.k0 P.ks P.kl (wBytes (adMidD P t m n)))).2,WV (adSum P t (adBulkD P t m n)).1 (adSum P t (adBulkD P t m n)).2] w (WV (wMinus (wOf (aesD P.k0 P.ks P.kl (wBytes (adMidD P t m n)))) (adSum P t (adBulkD P t m n))).1 (wMinus (wOf (aesD P.k0 P.ks P.kl (wBytes (adMidD P t m n)))) (adSum P t (adBulkD P t m n))).2)from ominus_any _ _ _ _ w)
 have JO:=Lib.hid fun (w wx:World)(hx:Ext w wx)(q2:Option Addr)(d2:Nat)(hd2:n≤d2)(hq2:RdB wx q2 (adBulkD P t m n))=>(show GivesR Tryz.prog 120 #[.slice q2 n d2,WV (wMinus (wOf (aesD P.k0 P.ks P.kl (wBytes (adMidD P t m n)))) (adSum P t (adBulkD P t m n))).1 (wMinus (wOf (aesD P.k0 P.ks P.kl (wBytes (adMidD P t m n)))) (adSum P t (adBulkD P t m n))).2] wx (NewL w.heap.size (n+16) (adDe P t m n))from by
   have h0:=ajoined_any (adBulkD P t m n) (wMinus (wOf (aesD P.k0 P.ks P.kl (wBytes (adMidD P t m n)))) (adSum P t (adBulkD P t m n))).1 (wMinus (wOf (aesD P.k0 P.ks P.kl (wBytes (adMidD P t m n)))) (adSum P t (adBulkD P t m n))).2 (by omega) q2 d2 (by omega) wx hq2
   rw [lB1]at h0
   refine Calls.mono h0 ?_
   rintro e w' ⟨v,M,R,rfl,hm1,hs⟩
   exact⟨v,rfl,newL_of (by omega) hx.size hm1 hs,hm1.x⟩)
 have AW:=Lib.hid fun w=>awrong_any g q (n+16) d (by omega) w
 generalize (adSum P t (m.take n)).1=s1 at*
 generalize (adSum P t (m.take n)).2=s2 at*
 generalize num (rgt m n) 0 8=r1 at*
 generalize num (rgt m n) 8 8=r2 at*
 generalize (wMinus (wOf (aesD P.k0 P.ks P.kl (wBytes (adMidD P t m n)))) (adSum P t (adBulkD P t m n))).1=y1 at*
 generalize (wMinus (wOf (aesD P.k0 P.ks P.kl (wBytes (adMidD P t m n)))) (adSum P t (adBulkD P t m n))).2=y2 at*
 generalize (adSum P t (adBulkD P t m n)).1=u1 at*
 generalize (adSum P t (adBulkD P t m n)).2=u2 at*
 generalize (wOf (aesD P.k0 P.ks P.kl (wBytes (adMidD P t m n)))).1=v1 at*
 generalize (wOf (aesD P.k0 P.ks P.kl (wBytes (adMidD P t m n)))).2=v2 at*
 generalize (adMidD P t m n).1=e1 at*
 generalize (adMidD P t m n).2=e2 at*
 generalize adDe P t m n=OUT at*
 generalize adBulkD P t m n=B1 at*
 generalize m.take n=B0 at*
 generalize adiC P.key (some ⟨gk,0,none⟩) (some ⟨gs,0,none⟩)=PC at*
 obtain⟨TL,hTL⟩:∃x,x=t.length:=⟨_,rfl⟩
 rw [←hTL]at S1 S2⊢
 have LB0:=Lib.hid lB0
 have LB1:=Lib.hid lB1
 clear h1 h2 h3 hr hq ht hl hk hc hTL lB0 lB1
 go_enter Tryz.func114,Tryz.ntmps114
 go_wp2_with (first|(go_at_call 116;(with_reducible refine(AW.out _).mono ?_);rintro e_ w_ ⟨rfl,rfl⟩)|(go_at_call 117;(with_reducible refine(PA.out _ hm.x).mono ?_);rintro e_ w ⟨v1,M1,R1,rfl,hm1,hs1⟩;replace hm:=hm.join hm1;obtain⟨p1,c1,rfl⟩:=hs1.form;clear hm1)|((((with_reducible show qSt);first|((with_reducible apply wq_stW hm);exact rfl;infer_instance;exact rfl;exact rfl;(focus ((repeat (first|exact .hd|assumption|apply Swap.tl|apply Swap.app));done));(focus (first|rfl|omega|(simp;done)|(simp;omega)));(focus (first|rfl|omega|(simp;done)|(simp;omega)));(focus (first|exact one_map _|(simp [one8,one32,one64];done))))));clear hm;intro w hm)|((first|((with_reducible show qAl);first|((with_reducible apply wq_new hm);exact rfl;infer_instance)));clear hm;intro gx_;intro w hm))
 rw [List.append_nil]at hm
 have HS1:=Lib.hid hs1
 have RB:=Lib.hid fun wx L (h:Own w0 wx (L++(M1++R1)))=>slo_rdZ hs1 h.dropN
 have c16:n≤c1:=by
   obtain⟨_,_,hv,h1,_⟩:=hs1.cells hm.drop
   cases hv
   exact h1
 clear hs1
 have hx0:=hm.x
 have hmA:=hm
 have a1:=fun wx (hwx:Ext w wx)=>S1.out wx (hx0.trans hwx) p1 c1 (RB.out wx [_] (hmA.ext hwx))
 have a2:=fun wx (hwx:Ext w wx)=>PL.out wx
 have R5:=Lib.hid fun wx (hwx:Ext w wx)=>HR.out wx (hx0.trans hwx)
 refine region_new 10 (fun w'=>Ext _ w') 53 (by kernel_rfl) (by kernel_rfl) rfl (fun _ _ h k=>h.trans k) (drew_ext _) ?_
 simp only [tSC,List.take_zero,dSC,List.drop_zero,List.map_cons,List.map_nil]
 repeat (first
     | (apply walk_some (NewS (w.heap.size) 71 ([v64 0#64,v64 0#64])) 11 (NewS.stable _ _ _) rfl rfl rfl rfl
        · (intro wx hwx;go_simp;exact gives_new (cs:=[v64 0#64,v64 0#64]) hwx.size))
     | (apply walk_is rfl rfl rfl
        · (intro wx hwx;(with_reducible apply gq_row1 ((R5.out) wx hwx));infer_instance;exact rfl;(first|exact EK.out|exact ES.out))
        · (simp only [Act.put,sIB,sCS,sCZ];rfl))
     | (apply walk_is rfl rfl rfl
        · (intro wx hwx;first|((with_reducible show gives _ _ _ (Sem.run _ (execOp _ (Oper.mk _ (Op.load _ _) _ _ _ _)) _));first|((with_reducible apply gq_ldW (hm.ext hwx));infer_instance;exact rfl;(focus ((repeat (first|exact .hd|assumption|apply Has.tl|apply Has.app));done));(focus (first|rfl|omega|(simp;done)|(simp;omega)))))|(go_simp;(try go_bits);first|exact gives_same|exact gives_skip|with_reducible exact gives_call (a1 wx hwx)|with_reducible exact gives_call (a2 wx hwx)))
        · (simp only [Act.put,sIB,sCS,sCZ];rfl))
     | (apply walk_not rfl rfl rfl
        · (simp only [Act.put,sIB,sCS,sCZ];rfl)))
 intro wz hwz
 simp only [zCC,zNR]
 repeat rw [fin_is]
 rw [fin_cons];intro x11 hx11
 repeat rw [fin_is]
 rw [fin_nil];intro hap
 simp only [Act.put,sIB,sCS,sCZ]at hap⊢
 obtain⟨g11_,rfl,hg11,hr11⟩:=hx11
 replace hm:=hm.push hwz hg11 hr11
 clear hap hr11
 clear a1 a2 hmA hx0 R5
 go_wp2_with (first|((with_reducible show qLd);first|((with_reducible apply wq_ldW hm);exact rfl;infer_instance;exact rfl;(focus ((repeat (first|exact .hd|assumption|apply Has.tl|apply Has.app));done));(focus (first|rfl|omega|(simp;done)|(simp;omega)))))|((((with_reducible show qSt);first|((with_reducible apply wq_stW hm);exact rfl;infer_instance;exact rfl;exact rfl;(focus ((repeat (first|exact .hd|assumption|apply Swap.tl|apply Swap.app));done));(focus (first|rfl|omega|(simp;done)|(simp;omega)));(focus (first|rfl|omega|(simp;done)|(simp;omega)));(focus (first|exact one_map _|(simp [one8,one32,one64];done))))));clear hm;intro w hm))
 refine(ST.out w hm.x p1 c1 c16 (RB.out w [_,_] hm)).mono ?_
 rintro e_ w ⟨p2,c2,rfl,hc2,hr2,hx_⟩
 replace hm:=hm.ext hx_
 clear hx_
 have HR2:=Lib.hid hr2
 clear hr2
 go_wp2_with fail
 have hx0:=hm.x
 have hmA:=hm
 have a1:=fun wx (hwx:Ext w wx)=>S2.out wx (hx0.trans hwx) p2 c2 (HR2.out.ext hwx)
 have a2:=fun wx (hwx:Ext w wx)=>MI.out wx
 have a4:=fun wx (hwx:Ext w wx)=>NU.out wx (hx0.trans hwx)
 have a3:=fun wx (hwx:Ext w wx)=>JO.out w wx hwx p2 c2 hc2 (HR2.out.ext hwx)
 have R5:=Lib.hid fun wx (hwx:Ext w wx)=>HR.out wx (hx0.trans hwx)
 refine region_new 17 (fun w'=>Ext _ w') 53 (by kernel_rfl) (by kernel_rfl) rfl (fun _ _ h k=>h.trans k) (drew_ext _) ?_
 simp only [tSC,List.take_zero,dSC,List.drop_zero,List.map_cons,List.map_nil]
 repeat (first
     | (apply walk_is rfl rfl rfl
        · (intro wx hwx;(with_reducible apply gq_row1 ((R5.out) wx hwx));infer_instance;exact rfl;(first|exact EK.out|exact ES.out))
        · (simp only [Act.put,sIB,sCS,sCZ];rfl))
     | (apply walk_some (NewL w.heap.size (n+16) OUT) 52 (NewL.stable _ _ _) rfl rfl rfl rfl
        · (intro wx hwx;go_simp;with_reducible exact gives_callR (a3 wx hwx)))
     | (apply walk_is rfl rfl rfl
        · (intro wx hwx;first|((with_reducible show gives _ _ _ (Sem.run _ (execOp _ (Oper.mk _ (Op.load _ _) _ _ _ _)) _));first|((with_reducible apply gq_ldW (hm.ext hwx));infer_instance;exact rfl;(focus ((repeat (first|exact .hd|assumption|apply Has.tl|apply Has.app));done));(focus (first|rfl|omega|(simp;done)|(simp;omega)))))|(go_simp;(try go_bits);first|exact gives_same|exact gives_skip|with_reducible exact gives_call (a1 wx hwx)|with_reducible exact gives_call (a2 wx hwx)|with_reducible exact gives_call (a4 wx hwx)))
        · (simp only [Act.put,sIB,sCS,sCZ];rfl))
     | (apply walk_not rfl rfl rfl
        · (simp only [Act.put,sIB,sCS,sCZ];rfl)))
 intro wz hwz
 simp only [zCC,zNR]
 repeat rw [fin_is]
 rw [fin_cons];intro x52 hx52
 repeat rw [fin_is]
 rw [fin_nil];intro hap
 simp only [Act.put,sIB,sCS,sCZ]at hap⊢
 obtain⟨gj,oj,dj,cur,rfl,hgj,hrj,hsj⟩:=hx52
 clear hm a1 a2 a3 a4 hap hx0 R5
 have hm:=hmA.push hwz hgj hrj
 clear hmA hwz hgj hrj
 have HSJ:=Lib.hid hsj
 clear hsj
 go_wp2_with fail
 go_ret2
 exact⟨_,[⟨gj,5,cur⟩],_,rfl,hm,HSJ.out⟩
def methN (bk : Bool) : String := if bk = true then "Decipher" else "Encipher"
theorem turned_gen(bk:Bool)(g K TL:Nat)(lst:Int)(T:TypeId)(x r:Value)(f:FuncId)(hFV:∀args w,(callFunc f args).run Tryz.prog w= .ok (.enter f args) w)(X:List Byte)(p q:Option Addr)(c d:Nat)(w0:World)(hl:¬(K:Int)<lst)
   (c1:w0.cell? ⟨g,1,none⟩=some (.iface T x))
   (LE:Calls Tryz.prog 42 #[.pointer (some ⟨g,0,none⟩)] w0 fun e w'=>e= .returned (.int .i64 lst)∧w0=w')
   (me:∀n w,(method (n+1) T x (methN bk)).run Tryz.prog w= .ok (f,r) w)
   (EN:Calls Tryz.prog f #[r, .slice p TL c, .slice q K d] w0 fun e w'=>∃px cx,e= .returned (.tuple #[.slice px K cx, .int .i64 0])∧K≤cx∧RdB w' px X∧Ext w0 w'):
   Calls Tryz.prog 31 #[.pointer (some ⟨g,0,none⟩), .slice p TL c, .slice q K d, .bool bk] w0 fun e w'=>∃px cx,e= .returned (.tuple #[.slice px K cx, .int .i64 0])∧K≤cx∧RdB w' px X∧Ext w0 w':=by
 have HE:=Lib.hid EN
 have HL:=Lib.hid LE
 have d3:decide ((K:Int)<lst)=false:=decide_eq_false hl
 clear EN LE
 cases bk
 · have me : ∀ n w, (method (n + 1) T x "Encipher").run Tryz.prog w = .ok (f, r) w := me
   go_enter Tryz.func31,Tryz.ntmps31
   go_wp2_with (go_at_call 42;(with_reducible refine(HL.out).mono ?_);rintro e_ w ⟨rfl,rfl⟩)
   refine(HE.out).mono ?_
   rintro e_ w ⟨px,cx,rfl,hcx,hpx,hx⟩
   go_wp2_with fail
   go_ret2
   exact⟨px,cx,rfl,hcx,hpx,hx⟩
 · have me : ∀ n w, (method (n + 1) T x "Decipher").run Tryz.prog w = .ok (f, r) w := me
   go_enter Tryz.func31,Tryz.ntmps31
   go_wp2_with (go_at_call 42;(with_reducible refine(HL.out).mono ?_);rintro e_ w ⟨rfl,rfl⟩)
   refine(HE.out).mono ?_
   rintro e_ w ⟨px,cx,rfl,hcx,hpx,hx⟩
   go_wp2_with fail
   go_ret2
   exact⟨px,cx,rfl,hcx,hpx,hx⟩
theorem meth_ade (n : Nat) (p : Addr) (w : World) : (method (n + 1) 96 (.pointer (some p)) "Encipher").run Tryz.prog w = .ok (115, .pointer (some p)) w := by kernel_rfl
theorem meth_hce (n : Nat) (p : Addr) (w : World) : (method (n + 1) 99 (.pointer (some p)) "Encipher").run Tryz.prog w = .ok (156, .pointer (some p)) w := by kernel_rfl
theorem meth_eze (n : Nat) (v : Value) (w : World) : (method (n + 1) 106 (.agg #[v]) "Encipher").run Tryz.prog w = .ok (181, .agg #[v]) w := by kernel_rfl
theorem meth_add (n : Nat) (p : Addr) (w : World) : (method (n + 1) 96 (.pointer (some p)) "Decipher").run Tryz.prog w = .ok (114, .pointer (some p)) w := by kernel_rfl
theorem meth_hcd (n : Nat) (p : Addr) (w : World) : (method (n + 1) 99 (.pointer (some p)) "Decipher").run Tryz.prog w = .ok (155, .pointer (some p)) w := by kernel_rfl
theorem meth_ezd (n : Nat) (v : Value) (w : World) : (method (n + 1) 106 (.agg #[v]) "Decipher").run Tryz.prog w = .ok (180, .agg #[v]) w := by kernel_rfl
theorem slo_post {P:Program}{f:FuncId}{xs:Array Value}{w:World}{K:Nat}{X:List Byte}(h:Calls P f xs w fun e w'=>∃v M R,e= .returned (.tuple #[v, .int .i64 0])∧Own w w' (M++R)∧SlO M 5 1 v K (X.map v8)):Calls P f xs w fun e w'=>∃px cx,e= .returned (.tuple #[.slice px K cx, .int .i64 0])∧K≤cx∧RdB w' px X∧Ext w w':=
 h.mono fun e w' ⟨v,M,R,h1,h2,h3⟩=>by
   obtain⟨px,cx,rfl,h4,h5⟩:=slo_read h2 h3
   exact⟨px,cx,h1,h5,h4,h2.x⟩
theorem turnedX_any(bk:Bool)(g n:Nat)(al:Int)(key t m:List Byte)(ht:t.length≤500)(hl:m.length=n+16)(hn:n≤15)(p q:Option Addr)(c d:Nat)(hc:t.length≤c)(hd:n+16≤d)(w0:World)(hh:CipR w0 g al key)(hr:RdB w0 p t)(hq:RdB w0 q m):
   Calls Tryz.prog 31 #[.pointer (some ⟨g,0,none⟩), .slice p t.length c, .slice q (n+16) d, .bool bk] w0 fun e w'=>∃px cx,e= .returned (.tuple #[.slice px (n+16) cx, .int .i64 0])∧n+16≤cx∧RdB w' px (wideX bk al key t m)∧Ext w0 w':=by
 obtain⟨gi,⟨h1,h2,h3⟩|⟨h1,h2,h3⟩|⟨h1,h2,h3⟩⟩:=hh
 · have c1:w0.cell? ⟨g,1,none⟩=some (.iface 96 (.pointer (some ⟨gi,0,none⟩))):=by rw [row_cell h2];rfl
   have LE:=least12 g _ _ 1 (.inl rfl) w0 h2
   cases bk
   · refine turned_gen false g (n+16) _ 16 _ _ _ _ (fun args w=>by kernel_rfl) _ p q c d w0 (by omega) c1 LE (fun n w=>meth_ade n _ w) ?_
     rw [show wideX false al key t m=adEn (adPk key) t m n from by show wideE al key t m=_;rw [wideE,if_pos h1,hl,Nat.add_sub_cancel]]
     exact slo_post (aenc_any gi n _ t m (by omega) hl (by omega) p q c d hc hd w0 h3 hr hq)
   · refine turned_gen true g (n+16) _ 16 _ _ _ _ (fun args w=>by kernel_rfl) _ p q c d w0 (by omega) c1 LE (fun n w=>meth_add n _ w) ?_
     rw [show wideX true al key t m=adDe (adPk key) t m n from by show wideD al key t m=_;rw [wideD,if_pos h1,hl,Nat.add_sub_cancel]]
     exact slo_post (adec_any gi n _ t m (by omega) hl (by omega) p q c d hc hd w0 h3 hr hq)
 · have c1:w0.cell? ⟨g,1,none⟩=some (.iface 99 (.pointer (some ⟨gi,0,none⟩))):=by rw [row_cell h2];rfl
   have LE:=least12 g _ _ 2 (.inr rfl) w0 h2
   cases bk
   · refine turned_gen false g (n+16) _ 16 _ _ _ _ (fun args w=>by kernel_rfl) _ p q c d w0 (by omega) c1 LE (fun n w=>meth_hce n _ w) ?_
     rw [show wideX false al key t m=hcDo (eK0 key) (eKs key) (eKl key) (hcH key) (hcL key) (aesE (eK0 key) (eKs key) (eKl key)) t m from by show wideE al key t m=_;rw [wideE,if_neg (by omega),if_pos h1]]
     exact slo_post (henc_any gi n _ _ _ _ t m _ ht hl (by omega) p q c d hc hd w0 h3 hr hq)
   · refine turned_gen true g (n+16) _ 16 _ _ _ _ (fun args w=>by kernel_rfl) _ p q c d w0 (by omega) c1 LE (fun n w=>meth_hcd n _ w) ?_
     rw [show wideX true al key t m=hcDo (eK0 key) (eKs key) (eKl key) (hcH key) (hcL key) (aesD (eK0 key) (eKs key) (eKl key)) t m from by show wideD al key t m=_;rw [wideD,if_neg (by omega),if_pos h1]]
     exact slo_post (hdec_any gi n _ _ _ _ t m _ ht hl (by omega) p q c d hc hd w0 h3 hr hq)
 · have c1:w0.cell? ⟨g,1,none⟩=some (.iface 106 (.agg #[.pointer (some ⟨gi,0,none⟩)])):=by rw [row_cell h2];rfl
   have LE:=least3 g _ _ w0 h2
   have e1:wideE al key t m=aezL key t m:=by rw [wideE,if_neg (by omega),if_neg (by omega)]
   have e2:wideD al key t m=aezD key t m:=by rw [wideD,if_neg (by omega),if_neg (by omega)];rfl
   cases bk
   · refine turned_gen false g (n+16) _ 1 _ _ _ _ (fun args w=>by kernel_rfl) _ p q c d w0 (by omega) c1 LE (fun n w=>meth_eze n _ w) ?_
     rw [show wideX false al key t m=aezL key t m from e1,←hl]
     exact ezenc_any gi key t m (by omega) (by omega) ht p q c d hc (by omega) w0 h3 hr hq
   · refine turned_gen true g (n+16) _ 1 _ _ _ _ (fun args w=>by kernel_rfl) _ p q c d w0 (by omega) c1 LE (fun n w=>meth_ezd n _ w) ?_
     rw [show wideX true al key t m=aezD key t m from e2,←hl]
     exact ezdec_any gi key t m (by omega) (by omega) ht p q c d hc (by omega) w0 h3 hr hq
def SchOk(al:Int)(key:List Byte):Prop:=(al=1∧key.length=32)∨(al=2∧(key.length=16∨key.length=24∨key.length=32))∨(al=3∧0<key.length∧key.length≤128)
def SchR(al:Int)(key:List Byte)(v:Value)(w:World):Prop:=∃gi,
 (al=1∧v= .iface 96 (.pointer (some ⟨gi,0,none⟩))∧AdiP w gi (adPk key))
 ∨(al=2∧v= .iface 99 (.pointer (some ⟨gi,0,none⟩))∧HcR w gi (eK0 key) (eKs key) (eKl key) (hcH key) (hcL key))
 ∨(al=3∧v= .iface 106 (.agg #[.pointer (some ⟨gi,0,none⟩)])∧KeyR w gi (keyOf key))
theorem SchR.cip {al:Int}{key:List Byte}{v:Value}{w:World}{g:Nat}(h:SchR al key v w)(hr:Row w g 84 [.int .i64 al,v]):CipR w g al key:=by
 obtain⟨gi,⟨h1,h2,h3⟩|⟨h1,h2,h3⟩|⟨h1,h2,h3⟩⟩:=h
 · exact⟨gi, .inl ⟨h1,by subst h1;subst h2;exact hr,h3⟩⟩
 · exact⟨gi, .inr (.inl ⟨h1,by subst h1;subst h2;exact hr,h3⟩)⟩
 · exact⟨gi, .inr (.inr ⟨h1,by subst h1;subst h2;exact hr,h3⟩)⟩
theorem adPk_of {w:World}{g:Nat}{key:List Byte}(h:AdiK w g key):AdiP w g (adPk key):=by unfold adPk;exact h
theorem schemed1_any(gt gb:Nat)(key:List Byte)(hk:key.length=32)(p:Option Addr)(c:Nat)(hc:key.length≤c)(w0:World)(hr:RdB w0 p key)(ht:TabR gt gb w0)(hcb:CoefB w0):
   Calls Tryz.prog 36 #[.pointer (some ⟨gt,0,none⟩), .int .i64 1, .slice p key.length c] w0 fun e w'=>∃v L,e= .returned (.tuple #[v, .int .i64 0])∧Own w0 w' L∧Keeps L (TabR gt gb) (SchR 1 key v)∧∃T x,v= .iface T x:=by
 have hm:=Own.start w0
 have EN:=Lib.hid (adinew_any gt gb key hk p c (by omega) w0 hr ht)
 have KE:=Lib.hid fun (gi:Nat)(L:List Blk)(h:Keeps L (TabR gt gb) (fun wx=>AdiK wx gi key))=>(show Keeps L (TabR gt gb) (SchR 1 key (.iface 96 (.pointer (some ⟨gi,0,none⟩))))from(fun wx h1 h2=>⟨gi, .inl ⟨rfl,rfl,adPk_of (h wx h1 h2)⟩⟩))
 obtain⟨TL,hTL⟩:∃x,x=key.length:=⟨_,rfl⟩
 rw [hk]at hTL
 rw [hk];subst hTL
 clear hr ht hcb hc
 go_enter Tryz.func36,Tryz.ntmps36
 go_wp2_with fail
 refine(EN.out).mono ?_
 rintro e_ w ⟨gi,L,rfl,_,hm,hk1⟩
 go_wp2_with fail
 go_ret2
 exact⟨_,L,rfl,hm,KE.out gi L hk1,_,_,rfl⟩
theorem schemed2_any(gt gb:Nat)(key:List Byte)(hk:key.length=16∨key.length=24∨key.length=32)(p:Option Addr)(c:Nat)(hc:key.length≤c)(w0:World)(hr:RdB w0 p key)(ht:TabR gt gb w0)(hcb:CoefB w0):
   Calls Tryz.prog 36 #[.pointer (some ⟨gt,0,none⟩), .int .i64 2, .slice p key.length c] w0 fun e w'=>∃v L,e= .returned (.tuple #[v, .int .i64 0])∧Own w0 w' L∧Keeps L (TabR gt gb) (SchR 2 key v)∧∃T x,v= .iface T x:=by
 have hm:=Own.start w0
 have EN:=Lib.hid (hnew_any gt gb key hk p c hc w0 hr ht)
 have KE:=Lib.hid fun (gi:Nat)(L:List Blk)(h:Keeps L (TabR gt gb) (fun wx=>HcR wx gi (eK0 key) (eKs key) (eKl key) (hcH key) (hcL key)))=>(show Keeps L (TabR gt gb) (SchR 2 key (.iface 99 (.pointer (some ⟨gi,0,none⟩))))from(fun wx h1 h2=>⟨gi, .inr (.inl ⟨rfl,rfl,h wx h1 h2⟩)⟩))
 obtain⟨TL,hTL⟩:∃x,x=key.length:=⟨_,rfl⟩
 skip
 rw [←hTL]at EN⊢
 clear hr ht hcb hc hTL
 go_enter Tryz.func36,Tryz.ntmps36
 go_wp2_with fail
 refine(EN.out).mono ?_
 rintro e_ w ⟨gi,L,rfl,_,hm,hk1⟩
 go_wp2_with fail
 go_ret2
 exact⟨_,L,rfl,hm,KE.out gi L hk1,_,_,rfl⟩
theorem schemed3_any(gt gb:Nat)(key:List Byte)(h0:0<key.length)(h1:key.length≤128)(p:Option Addr)(c:Nat)(hc:key.length≤c)(w0:World)(hr:RdB w0 p key)(ht:TabR gt gb w0)(hcb:CoefB w0):
   Calls Tryz.prog 36 #[.pointer (some ⟨gt,0,none⟩), .int .i64 3, .slice p key.length c] w0 fun e w'=>∃v L,e= .returned (.tuple #[v, .int .i64 0])∧Own w0 w' L∧Keeps L (TabR gt gb) (SchR 3 key v)∧∃T x,v= .iface T x:=by
 have hm:=Own.start w0
 have EN:=Lib.hid (ext_ok gt gb key p c w0 h0 h1 hc hr hcb ht.1)
 have KE:=Lib.hid fun (gi:Nat)(L:List Blk)(h:Has L ⟨gi,127,kcells gt (keyOf key)⟩)=>(show Keeps L (TabR gt gb) (SchR 3 key (.iface 106 (.agg #[.pointer (some ⟨gi,0,none⟩)])))from(fun wx h1 h2=>⟨gi, .inr (.inr ⟨rfl,rfl,keyOf_ok key,gt,gb,h1 _ h.mem,h2.1⟩)⟩))
 obtain⟨TL,hTL⟩:∃x,x=key.length:=⟨_,rfl⟩
 skip
 rw [←hTL]at EN⊢
 clear hr ht hcb hc hTL
 go_enter Tryz.func36,Tryz.ntmps36
 go_wp2_with fail
 refine(EN.out).mono ?_
 rintro e_ w ⟨gi,rfl,hg,hrow,hx⟩
 replace hm:=hm.push hx hg hrow
 clear hx hg hrow
 go_wp2_with fail
 go_ret2
 exact⟨_,_,rfl,hm,KE.out gi _ .hd,_,_,rfl⟩
theorem schemed_any(al:Int)(gt gb:Nat)(key:List Byte)(hk:SchOk al key)(p:Option Addr)(c:Nat)(hc:key.length≤c)(w0:World)(hr:RdB w0 p key)(ht:TabR gt gb w0)(hcb:CoefB w0):
   Calls Tryz.prog 36 #[.pointer (some ⟨gt,0,none⟩), .int .i64 al, .slice p key.length c] w0 fun e w'=>∃T x L,e= .returned (.tuple #[.iface T x, .int .i64 0])∧Own w0 w' L∧Keeps L (TabR gt gb) (SchR al key (.iface T x)):=by
 have F:∀{e:Ending} {w':World},(∃v L,e= .returned (.tuple #[v, .int .i64 0])∧Own w0 w' L∧Keeps L (TabR gt gb) (SchR al key v)∧∃T x,v= .iface T x)→∃T x L,e= .returned (.tuple #[.iface T x, .int .i64 0])∧Own w0 w' L∧Keeps L (TabR gt gb) (SchR al key (.iface T x)):=by
   rintro e w' ⟨v,L,h1,h2,h3,T,x,rfl⟩;exact⟨T,x,L,h1,h2,h3⟩
 obtain⟨rfl,h1⟩|⟨rfl,h1⟩|⟨rfl,h1,h2⟩:=hk
 · exact(schemed1_any gt gb key h1 p c hc w0 hr ht hcb).mono fun e w' ⟨v,L,h1,h2,h3,h4⟩=>F ⟨v,L,h1,h2,h3,h4⟩
 · exact(schemed2_any gt gb key h1 p c hc w0 hr ht hcb).mono fun e w' ⟨v,L,h1,h2,h3,h4⟩=>F ⟨v,L,h1,h2,h3,h4⟩
 · exact(schemed3_any gt gb key h1 h2 p c hc w0 hr ht hcb).mono fun e w' ⟨v,L,h1,h2,h3,h4⟩=>F ⟨v,L,h1,h2,h3,h4⟩
theorem build_wc(al:Int)(T:TypeId)(x:Value)(w:World):(Instr.build 84 #[(0, .int .i64 al),(1, .iface T x)]).run Tryz.prog w= .ok (.agg ([.int .i64 al, .iface T x]:List Value).toArray) w:=by kernel_rfl
theorem wnew_any(al:Int)(gt gb:Nat)(key:List Byte)(hk:SchOk al key)(p:Option Addr)(c:Nat)(hc:key.length≤c)(w0:World)(hr:RdB w0 p key)(ht:TabR gt gb w0)(hcb:CoefB w0):
   Calls Tryz.prog 25 #[.pointer (some ⟨gt,0,none⟩), .int .i64 al, .slice p key.length c] w0 fun e w'=>∃g L,e= .returned (.tuple #[.pointer (some ⟨g,0,none⟩), .int .i64 0])∧w0.heap.size≤g∧Own w0 w' L∧Keeps L (TabR gt gb) (fun wx=>CipR wx g al key):=by
 have EN:=Lib.hid (schemed_any al gt gb key hk p c hc w0 hr ht hcb)
 have BB:=Lib.hid (build_wc al)
 have KE:=Lib.hid fun (g:Nat)(L:List Blk)(T:TypeId)(x:Value)(h:Keeps L (TabR gt gb) (SchR al key (.iface T x)))=>(show Keeps (⟨g,84,[.int .i64 al, .iface T x]⟩::L) (TabR gt gb) (fun wx=>CipR wx g al key)from fun wx h1 h2=>(h wx (fun b hb=>h1 b (List.mem_cons_of_mem _ hb)) h2).cip (h1 _ List.mem_cons_self))
 obtain⟨TL,hTL⟩:∃x,x=key.length:=⟨_,rfl⟩
 rw [←hTL]at EN⊢
 clear hr ht hcb hc hTL hk
 go_enter Tryz.func25,Tryz.ntmps25
 go_wp2_with fail
 refine(EN.out).mono ?_
 rintro e_ w ⟨T,x,L,rfl,hm,hk1⟩
 go_wp2_with (first|((with_reducible apply wq_build2 (BB.out T x));exact rfl;exact rfl;exact rfl)|((with_reducible apply wq_boxN (cs:=[.int .i64 al, .iface T x]) hm);exact rfl;exact rfl;clear hm;intro gw w hm))
 go_ret2
 have:=hm.base .hd
 exact⟨_,_,rfl,this,hm,KE.out _ _ _ _ hk1⟩
structure VolK (VC:List Value) (gs:Nat):Prop where
 e2:VC[2]? =some (.int .i64 20)
 e3:VC[3]? =some (.int .i64 4)
 e7:VC[7]? =some (.slice (some ⟨gs,0,none⟩) 80 80)
theorem vown_gen(g gs n:Nat)(VC:List Value)(hV:VolK VC gs)(hn:n<4)(w0:World)(h:Row w0 g 52 VC):
   Gives Tryz.prog 30 #[.pointer (some ⟨g,0,none⟩), .int .i64 (n:Int)] w0 (.slice (some ⟨gs,n*20,none⟩) 20 (80-n*20)):=by
 unfold Gives
 have hm:=Own.start w0
 have HR:=Lib.hid fun (w:World)(hx:Ext w0 w)=>row_ext h hx
 have E2:=Lib.hid hV.e2
 have E7:=Lib.hid hV.e7
 have b1:n*20≤(n+1)*20:=by omega
 have b2:(n+1)*20≤80:=by omega
 have b3:(n+1)*20-n*20=20:=by omega
 have b4:(n:Int)≤3:=by omega
 have FS:=Lib.hid (show slP (some ⟨gs,0,none⟩) 80 (n*20)=some ⟨gs,n*20,none⟩from by rw [slP,if_neg (by omega)];by_cases hz:n=0;(subst hz;rfl);(simp [Addr.add];omega))
 clear h hV
 go_enter Tryz.func30,Tryz.ntmps30
 go_wp2_with fail
 have R1:=Lib.hid fun wx (hwx:Ext w0 wx)=>HR.out wx hwx
 refine region_at 21 (fun w'=>Ext _ w') 25 (by kernel_rfl) (by kernel_rfl) rfl (fun _ _ h k=>h.trans k) (drew_ext _) ?_
 simp only [tSC,List.take_zero,dSC,List.drop_zero,List.map_cons,List.map_nil]
 repeat (first
     | (apply walk_is rfl rfl rfl
        · (intro wx hwx;(with_reducible apply gq_row1 ((R1.out) wx hwx));infer_instance;exact rfl;(first|exact E2.out|exact E7.out))
        · (simp only [Act.put,sIB,sCS,sCZ];rfl))
     |(apply walk_is rfl rfl rfl;(intro wx hwx;(with_reducible apply gq_slLH (l:=n*20) (h:=(n+1)*20) (r:=20) Tryz.underlying22);infer_instance;exact rfl;exact rfl;exact rfl;exact b1;exact b2;exact b3);(simp only [Act.put,sIB,sCS,sCZ];rfl))
     | (apply walk_is rfl rfl rfl
        · (intro wx hwx;go_simp;(try go_bits);first|exact gives_same|exact gives_skip)
        · (simp only [Act.put,sIB,sCS,sCZ];rfl))
     | (apply walk_not rfl rfl rfl
        · (simp only [Act.put,sIB,sCS,sCZ];rfl)))
 intro wz hwz
 simp only [zCC,zNR]
 repeat (first|rw [fin_is]|(rw [fin_cons];intro _ _))
 rw [fin_nil]
 try (replace hm:=hm.ext hwz)
 simp only [Act.put,sIB,sCS,sCZ]
 rw [FS.out]
 go_wp2_with fail
 go_ret
 exact⟨rfl,hm.x⟩
theorem vcipher_gen(g gc:Nat)(n:Int)(VC:List Value)(e4:VC[4]? =some (.pointer (some ⟨gc,0,none⟩)))(e5:VC[5]? =some (.pointer none))(w0:World)(h:Row w0 g 52 VC):
   Calls Tryz.prog 16 #[.pointer (some ⟨g,0,none⟩), .int .i64 n] w0 fun e w'=>e= .returned (.pointer (some ⟨gc,0,none⟩))∧w0=w':=by
 have c1:w0.cell? ⟨g,5,none⟩=some (.pointer none):=by rw [row_cell h];exact e5
 have c2:w0.cell? ⟨g,4,none⟩=some (.pointer (some ⟨gc,0,none⟩)):=by rw [row_cell h];exact e4
 clear h
 go_enter Tryz.func16,Tryz.ntmps16
 go_wp2
 go_ret
 exact⟨rfl,rfl⟩
def stP(st:List Byte)(o:Nat)(x:List Byte):List Byte:=st.take o++x++st.drop (o+x.length)
theorem stP_length(st:List Byte)(o:Nat)(x:List Byte)(h:o+x.length≤st.length):(stP st o x).length=st.length:=by
 rw [stP];simp only [List.length_append,List.length_take,List.length_drop];omega
theorem rdB_at {w:World}{g o n:Nat}{l:List Byte}(h:RdB w (some ⟨g,0,none⟩) l):RdB w (some ⟨g,o,none⟩) ((l.drop o).take n):=by
 have h1:=(h.drop o).take n
 rwa [show(⟨g,0,none⟩:Addr).add o=⟨g,o,none⟩from by by_cases hz:o=0;(subst hz;rfl);(simp [Addr.add];omega)]at h1
theorem vplaceX_any(bk:Bool)(gc gs o d:Nat)(al:Int)(key t st:List Byte)(ht:t.length≤500)(ho:o+20≤st.length)(hd:20≤d)(p:Option Addr)(c:Nat)(hc:t.length≤c)(w0 w:World)(R:List Blk)(hm:Own w0 w (⟨gs,5,st.map v8⟩::R))(hh:CipR w gc al key)(hr:RdB w p t):
   Calls Tryz.prog 37 #[.pointer (some ⟨gc,0,none⟩), .slice p t.length c, .slice (some ⟨gs,o,none⟩) 20 d, .bool bk] w fun e w'=>e= .returned (.int .i64 0)∧Own w0 w' (⟨gs,5,(stP st o (wideX bk al key t ((st.drop o).take 20))).map v8⟩::R):=by
 have lB:((st.drop o).take 20).length=4+16:=by simp only [List.length_take,List.length_drop];omega
 have EN:=Lib.hid (turnedX_any bk gc 4 al key t ((st.drop o).take 20) ht lB (by omega) p (some ⟨gs,o,none⟩) c d hc hd w hh hr (rdB_at (hm.rdB (g:=gs) (l:=st) (by repeat (first|exact Has.hd|assumption|apply Has.tl)))))
 simp only [Nat.reduceAdd]at EN
 have lX:(wideX bk al key t ((st.drop o).take 20)).length=20:=by rw [wideX_length _ _ _ _ _ (by omega),lB]
 obtain⟨X,hX⟩:∃x,x=wideX bk al key t ((st.drop o).take 20):=⟨_,rfl⟩
 rw [←hX]at EN lX⊢
 obtain⟨TL,hTL⟩:∃x,x=t.length:=⟨_,rfl⟩
 rw [←hTL]at EN⊢
 have EQ:=Lib.hid (show over st o (X.take 20)=stP st o X from by rw [List.take_of_length_le (by omega)];rfl)
 have FT:=Lib.hid ho
 have LX:=Lib.hid lX.symm
 clear hX hTL hh hr ht hc hd lB lX ho
 go_enter Tryz.func37,Tryz.ntmps37
 go_wp2_with fail
 refine(EN.out).mono ?_
 rintro e_ w ⟨px,cx,rfl,hcx,hpx,hx_⟩
 replace hm:=hm.ext hx_
 clear hx_
 go_wp2_with (first|((with_reducible show wpList _ _ _ (Oper.mk _ (Op.call _) _ _ _ _::_) _ _);refine wpl_cp8 hm rfl rfl rfl rfl Tryz.underlying22 (by kernel_rfl) (by repeat (first|exact Swap.hd|assumption|apply Swap.tl)) (hpx) LX.out (EQ.out) FT.out ?_;clear hm;intro w hm))
 go_ret
 exact⟨rfl,hm⟩
def stX(bk:Bool)(al:Int)(key st:List Byte)(n:Nat):List Byte:=stP st (n*20) (wideX bk al key (twL n) ((st.drop (n*20)).take 20))
theorem stX_length(bk:Bool)(al:Int)(key st:List Byte)(n:Nat)(hl:st.length=80)(hn:n<4):(stX bk al key st n).length=80:=by
 have:((st.drop (n*20)).take 20).length=20:=by simp only [List.length_take,List.length_drop];omega
 rw [stX,stP_length _ _ _ (by rw [wideX_length _ _ _ _ _ (by omega)];omega),hl]
theorem vturnX_any(bk:Bool)(g gc gs n:Nat)(al:Int)(key st:List Byte)(VC:List Value)(hV:VolK VC gs)(hl:st.length=80)(hn:n<4)(w0 w:World)(R:List Blk)(hm:Own w0 w (⟨gs,5,st.map v8⟩::R))(hv:Has R ⟨g,52,VC⟩)(hh:CipR w gc al key):
   Calls Tryz.prog 26 #[.pointer (some ⟨g,0,none⟩), .pointer (some ⟨gc,0,none⟩), .int .i64 (n:Int), .bool bk] w fun e w'=>e= .returned (.tuple #[])∧Own w0 w' (⟨gs,5,(stX bk al key st n).map v8⟩::R):=by
 have TW:=Lib.hid fun (wx:World)=>tweak_any n (by omega) wx
 have OW:=Lib.hid fun (wx:World)(h:Own w0 wx (⟨gs,5,st.map v8⟩::R))=>vown_gen g gs n VC hV hn wx (h.row (.tl hv))
 have lT:=twL_length n
 have PL:=Lib.hid fun (wx:World)(p:Option Addr)(c:Nat)(h:Own w0 wx (⟨gs,5,st.map v8⟩::R))(hx:Ext w wx)(hc:(twL n).length≤c)(hb:RdB wx p (twL n))=>vplaceX_any bk gc gs (n*20) (80-n*20) al key (twL n) st (by omega) (by omega) (by omega) p c hc w0 wx R h (hh.ext hx) hb
 rw [show stP st (n*20) (wideX bk al key (twL n) ((st.drop (n*20)).take 20))=stX bk al key st n from rfl]at PL
 obtain⟨X,hX⟩:∃x,x=stX bk al key st n:=⟨_,rfl⟩
 rw [←hX]at PL⊢
 obtain⟨T,hT⟩:∃x,x=twL n:=⟨_,rfl⟩
 rw [←hT]at PL TW
 obtain⟨W0,hW0⟩:∃x,x=w:=⟨_,rfl⟩
 rw [←hW0]at PL
 have HX:=Lib.hid (show Ext W0 w from hW0 ▸ Ext.refl _)
 have b4:(n:Int)≤3:=by omega
 clear hX hT hW0 hl hh hv lT hV
 go_enter Tryz.func26,Tryz.ntmps26
 go_wp2_with fail
 refine(TW.out _).mono ?_
 rintro e_ w ⟨v,rfl,⟨p,c,rfl,hlc,hb⟩,hx_⟩
 replace hm:=hm.ext hx_
 replace HX:=Lib.hid (HX.out.trans hx_)
 clear hx_
 go_wp2_with fail
 refine(OW.out _ hm).mono ?_
 rintro e_ w ⟨rfl,hx_⟩
 replace hm:=hm.ext hx_
 replace HX:=Lib.hid (HX.out.trans hx_)
 replace hb:=hb.ext hx_
 clear hx_
 go_wp2_with fail
 refine(PL.out _ p c hm HX.out hlc hb).mono ?_
 rintro e_ w ⟨rfl,hm1⟩
 go_wp2_with fail
 go_end0
 exact⟨rfl,hm1⟩
theorem vwith_gen(FV:FuncId)(hFV:∀args w,(callFunc FV args).run Tryz.prog w= .ok (.enter FV args) w)(cs:Array Value)(g gs n:Nat)(VC:List Value)(hV:VolK VC gs)(Post:World→Prop)(hn:n<4)(w:World)(h:Row w g 52 (VC))
   (CL:∀wx,Ext w wx→Calls Tryz.prog FV (#[.slice (some ⟨gs,n*20,none⟩) 20 (80-n*20)]++cs) wx (fun e w'=>e= .returned (.int .i64 0)∧Post w')):
   Calls Tryz.prog 14 #[.pointer (some ⟨g,0,none⟩), .int .i64 (n:Int), .func (.func FV) #[] cs] w fun e w'=>e= .returned (.int .i64 0)∧Post w':=by
 have OW:=Lib.hid (vown_gen g gs n VC hV hn w h)
 have c1:w.cell? ⟨g,3,none⟩=some (.int .i64 4):=by rw [row_cell h];exact hV.e3
 have CJ:=Lib.hid CL
 have b1:¬(n:Int)<0:=by omega
 have b2:decide ((n:Int)<0)=false:=decide_eq_false b1
 have b3:¬(n:Int)≥4:=by omega
 have b4:decide ((n:Int)≥4)=false:=decide_eq_false b3
 have b5:¬(4:Int)≤(n:Int):=by omega
 have b6:decide ((4:Int)≤(n:Int))=false:=decide_eq_false b5
 obtain⟨SL,hSL⟩:∃x,x=Value.slice (some ⟨gs,n*20,none⟩) 20 (80-n*20):=⟨_,rfl⟩
 rw [←hSL]at OW CJ
 clear h CL hSL hV
 go_enter Tryz.func14,Tryz.ntmps14
 go_wp2_with fail
 refine(OW.out).mono ?_
 rintro e_ w ⟨rfl,hx_⟩
 have CK:=Lib.hid (CJ.out w hx_)
 clear hx_
 go_wp2_with fail
 refine(CK.out).mono ?_
 rintro e_ w ⟨rfl,hp⟩
 go_wp2_with fail
 go_ret
 exact⟨rfl,hp⟩
def volC(gt:Nat)(al:Int)(gc gs:Nat)(ld:Value):List Value:=[.pointer (some ⟨gt,0,none⟩), .int .i64 al, .int .i64 20, .int .i64 4, .pointer (some ⟨gc,0,none⟩), .pointer none, .int .i64 0, .slice (some ⟨gs,0,none⟩) 80 80,ld]
theorem volC_K(gt:Nat)(al:Int)(gc gs:Nat)(ld:Value):VolK (volC gt al gc gs ld) gs:=⟨rfl,rfl,rfl⟩
def volN(gt:Nat)(al:Int)(gc:Nat)(nx:Option Addr)(mv:Int)(gs:Nat)(ld:Value):List Value:=[.pointer (some ⟨gt,0,none⟩), .int .i64 al, .int .i64 20, .int .i64 4, .pointer (some ⟨gc,0,none⟩), .pointer nx, .int .i64 mv, .slice (some ⟨gs,0,none⟩) 80 80,ld]
theorem volN_K(gt:Nat)(al:Int)(gc:Nat)(nx:Option Addr)(mv:Int)(gs:Nat)(ld:Value):VolK (volN gt al gc nx mv gs ld) gs:=⟨rfl,rfl,rfl⟩
def stT(al:Int)(key st:List Byte)(n:Nat):List Byte:=stP st (n*20) (wideE al key (twL n) ((st.drop (n*20)).take 20))
theorem stT_length(al:Int)(key st:List Byte)(n:Nat)(hl:st.length=80)(hn:n<4):(stT al key st n).length=80:=stX_length false al key st n hl hn
theorem vturn_any(g gt gc gs n:Nat)(al:Int)(key st:List Byte)(ld:Value)(hl:st.length=80)(hn:n<4)(w0 w:World)(R:List Blk)(hm:Own w0 w (⟨gs,5,st.map v8⟩::R))(hv:Has R ⟨g,52,volC gt al gc gs ld⟩)(hh:CipR w gc al key):
   Calls Tryz.prog 26 #[.pointer (some ⟨g,0,none⟩), .pointer (some ⟨gc,0,none⟩), .int .i64 (n:Int), .bool false] w fun e w'=>e= .returned (.tuple #[])∧Own w0 w' (⟨gs,5,(stT al key st n).map v8⟩::R):=
 vturnX_any false g gc gs n al key st _ (volC_K gt al gc gs ld) hl hn w0 w R hm hv hh
instance:One1 Tryz.prog 50:=⟨by kernel_rfl,by kernel_rfl⟩
instance:Many Tryz.prog 52 9:=⟨by kernel_rfl,by kernel_rfl⟩
def ldB:Nat→Nat
 |0=>0
 |k+1=>((FloatKind.format .f64).add (ldB k) 4607182418800017408).getD 0
theorem ldB_add:∀k,k<20→(FloatKind.format .f64).add (ldB k) 4607182418800017408=some (ldB (k+1)):=by decide+kernel
theorem ldB_keep:∀k,k<21→(FloatKind.format .f64).add (ldB k) 0=some (ldB k):=by decide+kernel
def ldW(r k:Nat):Value:= .complex .f64 (ldB r) (ldB k)
def ldV(k:Nat):Value:= .complex .f64 0 (ldB k)
theorem run_cadd {P:Program}{T:TypeId}{a b c d x y:Nat}(h1:(FloatKind.format .f64).add a c=some x)(h2:(FloatKind.format .f64).add b d=some y)(w:World):(binOp .add T (.complex .f64 a b) (.complex .f64 c d)).run P w= .ok (.complex .f64 x y) w:=by
 simp [binOp,Op.complexOp,Op.Complex.arith,Op.floatArith,h1,h2,Sem.run_bind,Sem.run_pure,Result.andThen_ok]
theorem ldV_add(k:Nat)(h:k<10)(w:World):(binOp .add 50 (ldV k) (.complex .f64 0 4607182418800017408)).run Tryz.prog w= .ok (ldV (k+1)) w:=
 run_cadd (ldB_keep 0 (by omega)) (ldB_add k (by omega)) w
theorem ldW_inc(r k:Nat)(hr:r<20)(h:k≤10)(w:World):(binOp .add 50 (ldW r k) (.complex .f64 4607182418800017408 0)).run Tryz.prog w= .ok (ldW (r+1) k) w:=
 run_cadd (ldB_add r hr) (ldB_keep k (by omega)) w
end Go.Proofs.YtllnjbiebdkmbaaGreatDoor
