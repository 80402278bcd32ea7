/-
  Texts of the program, walked, and plain ones. Conditions: those written in each theorem.
-/
import Derived.Test.YtneacgpmjlocjaaGreatDoorZTopWrapped0
import Derived.Test.YtneacgpmjlocjaaGreatDoorZTopWrapped13
import Derived.Test.YtneacgpmjlocjaaGreatDoorZTopWrapped14
import Derived.Test.YtneacgpmjlocjaaGreatDoorZTopWrapped8
import Derived.Test.YtneacgpmjlocjaaGreatDoorZTopWrapped2
import Derived.Test.YtneacgpmjlocjaaGreatDoorZTopWrapped4
import Derived.Test.YtneacgpmjlocjaaGreatDoorZTopWrapped3
import Derived.Test.YtneacgpmjlocjaaGreatDoorZTopWrapped11
import Derived.Test.YtneacgpmjlocjaaGreatDoorZTopWrapped9
import Derived.Test.YtneacgpmjlocjaaGreatDoorZTopWrapped12
set_option linter.unusedSimpArgs false
set_option linter.unusedVariables false
set_option maxHeartbeats 16000000
open Go.Lib (hid)
namespace Go.Proofs.YtneacgpmjlocjaaGreatDoor
open Go Go.RowKit
set_option maxRecDepth 100000
def akC(tw ms:List Byte)(gw:Nat):List Value:=tw.map v8++(ms.map v8++[.slice (some ⟨gw,0,none⟩) 268 268])
def AdR(w:World)(g:Nat)(tw ms:List Byte)(W:List (BitVec 32)):Prop:=∃gw,Row w g 169 (akC tw ms gw)∧Row w gw 70 (W.map v32)∧tw.length=16∧ms.length=16∧W.length=268
theorem AdR.ext {w w':World}{g:Nat}{tw ms:List Byte}{W:List (BitVec 32)}(h:AdR w g tw ms W)(hx:Ext w w'):AdR w' g tw ms W:=by
 obtain⟨gw,h1,h2,h3⟩:=h
 exact⟨gw,row_ext h1 hx,row_ext h2 hx,h3⟩
theorem akC_tw(tw ms:List Byte)(gw:Nat)(h1:tw.length=16):((akC tw ms gw).drop 0).take 16=tw.map v8:=by
 rw [dZe,akC];exact List.take_left' (by simp [h1])
theorem akC_ms(tw ms:List Byte)(gw:Nat)(h1:tw.length=16)(h2:ms.length=16):((akC tw ms gw).drop 16).take 16=ms.map v8:=by
 rw [akC,List.drop_left' (by simp [h1])];exact List.take_left' (by simp [h2])
theorem akC_w(tw ms:List Byte)(gw:Nat)(h1:tw.length=16)(h2:ms.length=16):(akC tw ms gw)[32]? =some (.slice (some ⟨gw,0,none⟩) 268 268):=by
 rw [akC,List.getElem?_append_right (by simp [h1]),List.getElem?_append_right (by simp [h1,h2])];simp [h1,h2]
theorem build_ak(tw ms:List Byte)(gw:Nat)(h1:tw.length=16)(h2:ms.length=16)(w:World):(Instr.build 169 #[(0,A8 tw),(1,A8 ms),(2, .slice (some ⟨gw,0,none⟩) 268 268)]).run Tryz.prog w= .ok (.agg (akC tw ms gw).toArray) w:=by
 obtain⟨a0,a1,a2,a3,a4,a5,a6,a7,a8,a9,a10,a11,a12,a13,a14,a15,rfl⟩:=len16 tw h1
 obtain⟨b0,b1,b2,b3,b4,b5,b6,b7,b8,b9,b10,b11,b12,b13,b14,b15,rfl⟩:=len16 ms h2
 kernel_rfl
theorem build_wide2(lo hi:Int)(w:World):(Instr.build 191 #[(0, .int .u64 lo),(1, .int .u64 hi)]).run Tryz.prog w= .ok (.agg #[.int .u64 lo, .int .u64 hi]) w:=by kernel_rfl
theorem adnew_any(key:List Byte)(hk:key.length=1104)(p:Option Addr)(c:Nat)(hc:1104≤c)(w0:World)(hr:RdB w0 p key):Calls Tryz.prog 66 #[.slice p 1104 c] w0 fun e w'=>∃g,e= .returned (.tuple #[.pointer (some ⟨g,0,none⟩), .int .i64 0])∧w0.heap.size≤g∧∃L,Own w0 w' L∧Keeps L (fun _=>True) (fun wx=>AdR wx g (blk key) (blk (key.drop 16)) (nhW (key.drop 32))):=by
 have hm:=Own.start w0
 have l32:(key.drop 32).length=1072:=by rw [List.length_drop,hk]
 have NW:=hid fun w (hx:Ext w0 w)=>nwords_any (key.drop 32) l32 (slP p c 32) (c-32) w ((hr.ext hx).slL c 32 (by omega))
 have B1:=hid fun w (hx:Ext w0 w)=>(show Gives Tryz.prog 69 #[.slice p 1104 c] w (A8 (blk key))from by have:=oblock_any key p c w (hr.ext hx);rwa [hk]at this)
 have B2:=hid fun w (hx:Ext w0 w)=>(show Gives Tryz.prog 69 #[.slice (slP p c 16) 1088 (c-16)] w (A8 (blk (key.drop 16)))from by have:=oblock_any (key.drop 16) (slP p c 16) (c-16) w ((hr.ext hx).slL c 16 (by omega));rwa [show(key.drop 16).length=1088 from by rw [List.length_drop,hk]]at this)
 have l1:=blk_length key
 have l2:=blk_length (key.drop 16)
 have l3:=nhW_length (key.drop 32)
 obtain⟨X,hX⟩:=exq (blk key)
 obtain⟨Y,hY⟩:=exq (blk (key.drop 16))
 obtain⟨Z,hZ⟩:=exq (nhW (key.drop 32))
 rw [←hX]at B1 l1⊢
 rw [←hY]at B2 l2⊢
 rw [←hZ]at NW l3⊢
 have BA:=hid fun gw w=>build_ak X Y gw l1 l2 w
 have L3:=hid l3
 have c2:(1104:Int)≤(c:Int):=by omega
 clear hr hk l32 hX hY hZ l3
 go_enter Tryz.func66,Tryz.ntmps66
 go_wp2_with (first|((with_reducible apply wq_slL (l:=32) (r:=1072) Tryz.underlying22);infer_instance;exact rfl;exact rfl;exact rfl;exact(by omega);exact rfl)|(go_at_call 88;(with_reducible refine(NW.out _ hm.x).mono ?_);rintro e_ w ⟨gw,rfl,hg_,hr_,hx_⟩;replace hm:=hm.push hx_ hg_ hr_;clear hx_ hg_ hr_))
 have BG:=hid (BA.out gw)
 have hx0:=hm.x
 have b1:=fun wx (h:Ext w wx)=>B1.out wx (hx0.trans h)
 have b2:=fun wx (h:Ext w wx)=>B2.out wx (hx0.trans h)
 refine rgE 7 26 ?_
 simp only [zTa]
 repeat (first
     |(apply walk_is rfl rfl rfl;(intro wx hwx;(with_reducible apply gq_slL (l:=16) (r:=1088) Tryz.underlying22);infer_instance;exact rfl;exact rfl;exact(by omega);exact rfl);(simp only [zPu];rfl))
     |(apply walk_is rfl rfl rfl;(intro wx hwx;(with_reducible apply gq_build BG.out);(first|rfl|simp [Act.eval]|kernel_rfl));(simp only [zPu];rfl))
     | (apply walk_is rfl rfl rfl
        · (intro wx hwx;go_simp;(try go_bits);first|exact gives_same|exact gives_skip|with_reducible exact gives_call (b1 wx hwx)|with_reducible exact gives_call (b2 wx hwx))
        · (simp only [zPu];rfl))
     | (apply walk_not rfl rfl rfl
        · (simp only [zPu];rfl)))
 intro wz hwz
 simp only [zZi]
 repeat (first|rw [fin_is]|(rw [fin_cons];intro _ _))
 rw [fin_nil]
 try (replace hm:=hm.ext hwz)
 simp only [zPu]
 clear b1 b2 hx0
 go_wp2_with (first|(((with_reducible show qBx);refine zH hm ?_);clear hm;(first|(have hx_:=g1;clear hx_;intro gx_)|intro g1);intro w hm))
 go_ret2
 exact⟨g1,rfl,hm.base .hd,_,hm,fun wx hrow _=>⟨gw,hrow ⟨g1,169,akC X Y gw⟩ (by simp),hrow ⟨gw,70,Z.map v32⟩ (by simp),l1,l2,L3.out⟩⟩
def hdB(n:Nat):List Byte:=putL (BitVec.ofNat 64 (n*8)) 8++putL (BitVec.ofNat 64 (n/2305843009213693952)) 8
theorem hdB_length(n:Nat):(hdB n).length=16:=by rw [hdB,List.length_append,putL_length,putL_length]
def hd1(y:List (BitVec 32))(n:Nat):List (BitVec 32):=pvF y (hdB n) (zer 5) 1
def hdV(tw t:List Byte)(n:Nat):List (BitVec 32):=pvE (ofL (clB tw 3) 0#32) (pvF (ofL (clB tw 3) 0#32) t (hd1 (ofL (clB tw 3) 0#32) n) (t.length/16)) (pwR (pwR (zer 16) (hdB n)) t) (t.length%16)
theorem ahead12_any(g:Nat)(tw ms t:List Byte)(W:List (BitVec 32))(n:Nat)(hn:n≤1000000)(ht:t.length≤70368744177000)(p:Option Addr)(c:Nat)(hc:t.length≤c)(w0:World)(h:AdR w0 g tw ms W)(hr:RdB w0 p t):
   Gives Tryz.prog 184 #[.pointer (some ⟨g,0,none⟩), .slice p t.length c, .int .i64 (n:Int)] w0 (WV (num (lowB (hdV tw t n)) 0 8) (num (lowB (hdV tw t n)) 8 8)):=by
 unfold Gives
 have hm:=Own.start w0
 obtain⟨gw,h1,_,htw,_,_⟩:=h
 have HR:=hid fun w (hx:Ext w0 w)=>row_ext h1 hx
 have ET:=hid (akC_tw tw ms gw htw)
 have HTW:=hid htw
 obtain⟨y,hy⟩:∃y,y=ofL (clB tw 3) 0#32:=⟨_,rfl⟩
 have ly:y.length=5:=by rw [hy];exact ofL_length _ _
 have PN:=hid fun w=>(show Calls Tryz.prog 190 #[A8 tw] w fun e w'=>∃g,e= .returned (.pointer (some ⟨g,0,none⟩))∧w.heap.size≤g∧Row w' g 279 (psC y (zer 5) (zer 16) 0)∧Ext w w' from by rw [hy];exact pnew_any tw htw w)
 have lH:=hdB_length n
 have lR1:=pwR_length (zer 16) (hdB n) zer_length
 have EV:Hid (hdV tw t n=pvE y (pvF y t (hd1 y n) (t.length/16)) (pwR (pwR (zer 16) (hdB n)) t) (t.length%16)):=hid (by rw [hy];rfl)
 have W1:=hid fun (gs:Nat)(p:Option Addr)(c:Nat)(hc:16≤c)(w:World)(R:List Blk)(hrd:∀wx X,Own w0 wx (X::R)→RdB wx p (hdB n))(hm:Own w0 w (⟨gs,279,psC y (zer 5) (zer 16) 0⟩::R))=>(show Calls Tryz.prog 191 #[.pointer (some ⟨gs,0,none⟩), .slice p 16 c] w fun e w'=>e= .returned (.tuple #[])∧Own w0 w' (⟨gs,279,psC y (hd1 y n) (pwR (zer 16) (hdB n)) 0⟩::R)from by
   have:=pwrite_any gs y (zer 5) (zer 16) (hdB n) ly zer_length zer_length (by omega) p c (by omega) w0 w R hrd hm
   rw [lH]at this
   exact this)
 have lV1:(hd1 y n).length=5:=pvF_length _ _ _ _ zer_length
 have W2:=hid fun (gs:Nat)(w:World)(R:List Blk)(hm:Own w0 w (⟨gs,279,psC y (hd1 y n) (pwR (zer 16) (hdB n)) 0⟩::R))=>pwrite_any gs y (hd1 y n) (pwR (zer 16) (hdB n)) t ly lV1 lR1 ht p c hc w0 w R (fun wx X hX=>hr.ext hX.x) hm
 have lR2:=pwR_length (pwR (zer 16) (hdB n)) t lR1
 have lV2:(pvF y t (hd1 y n) (t.length/16)).length=5:=pvF_length _ _ _ _ lV1
 have NU:=hid fun (gs:Nat)(w:World)(h:Row w gs 279 (psC y (pvF y t (hd1 y n) (t.length/16)) (pwR (pwR (zer 16) (hdB n)) t) (t.length%16)))=>anumberE_any gs (t.length%16) y (pvF y t (hd1 y n) (t.length/16)) (pwR (pwR (zer 16) (hdB n)) t) (Nat.mod_lt _ (by omega)) ly lV2 lR2 w h
 rw [←EV.out]at NU
 have BH:=hid fun (w:World)=>(show Gives Tryz.prog 186 #[.agg #[.int .u64 ((n:Int)*8), .int .u64 ((n:Int)/2305843009213693952)]] w (A8 (hdB n))from by
   have:=bytes_any (BitVec.ofNat 64 (n*8)) (BitVec.ofNat 64 (n/2305843009213693952)) w
   rw [WV,v64_nat _ (by omega),v64_nat _ (by omega),show((n*8:Nat):Int)=(n:Int)*8 from by omega,show((n/2305843009213693952:Nat):Int)=(n:Int)/2305843009213693952 from by omega]at this
   exact this)
 have i0:(0:Int)≤(n:Int):=by omega
 have i1:(n:Int)≤1000000:=by omega
 have BW:=hid build_wide2
 clear h1 hr hy
 go_enter Tryz.func184,Tryz.ntmps184
 have LH:=hid lH
 have l1:=Nat.le_of_eq lH
 have l2:=Nat.le_of_eq lH.symm
 obtain⟨HB,hHB⟩:=exq (hdB n)
 rw [←hHB]at BH W1 W2 NU LH l1 l2
 clear EV lH lR1 lV1 lR2 lV2 hHB
 go_wp2_with (first|((with_reducible apply wq_build2 (BW.out _ _));exact rfl;exact rfl;exact rfl)|(go_at_call 186;(with_reducible refine(BH.out _).mono ?_);rintro e_ w ⟨rfl,hx_⟩;replace hm:=hm.ext hx_;clear hx_)|((with_reducible apply wq_rowN (HR.out _ hm.x));exact rfl;infer_instance;exact rfl;exact ET.out;exact(by rw [List.length_map];exact HTW.out))|((with_reducible show qSt);refine zE hm ?_;clear hm;intro w hm)|(((with_reducible show qAl);refine zG hm ?_);clear hm;(first|(have hx_:=g1;clear hx_;(first|(have hx_:=g2;clear hx_;intro gx_)|intro g2))|intro g1);intro w hm))
 refine(PN.out _).mono ?_
 rintro e_ w ⟨gs,rfl,hg,hrow,hx⟩
 replace hm:=hm.push hx hg hrow
 clear hg hrow hx
 go_wp2_with fail
 refine(W1.out gs _ 16 (by omega) w _ (fun wx X hX=>hX.rdB (g:=g2) (l:=HB) (.tl .hd)) hm).mono ?_
 rintro e_ w ⟨rfl,hm1⟩
 replace hm:=hm1
 clear hm1
 go_wp2_with fail
 refine(W2.out gs _ _ hm).mono ?_
 rintro e_ w ⟨rfl,hm1⟩
 replace hm:=hm1
 clear hm1
 go_wp2_with (first|(go_at_call 192;(with_reducible refine(NU.out gs _ (hm.row .hd)).mono ?_);rintro e_ w ⟨rfl,hx_⟩;replace hm:=hm.ext hx_;clear hx_)|((with_reducible show qSt);refine zE hm ?_;clear hm;intro w hm))
 refine rtO hm rfl rfl ⟨rfl,hm.x⟩
open Go
def strF(z:Nat)(S:Nat→List Byte)(b:List Byte):Nat→List Byte
 |0=>[]
 |k+1=>strF z S b k++xorL (b.drop (z*k)) (S k)
theorem strF_length(z:Nat)(S:Nat→List Byte)(hS:∀k,(S k).length=z)(b:List Byte)(k:Nat):(strF z S b k).length=min b.length (z*k):=by
 induction k with
 |zero=>simp [strF]
 | succ k ih=>
   rw [strF,List.length_append,ih,xorL_length,hS,List.length_drop,Nat.mul_succ]
   omega
def strN(z n:Nat):Nat:=(n+(z-1))/z
theorem strN_le(z n:Nat)(hz:0<z):n≤z*strN z n:=by
 unfold strN
 have h:=Nat.div_add_mod (n+(z-1)) z
 have:=Nat.mod_lt (n+(z-1)) hz
 omega
theorem strN_lt(z n k:Nat)(hz:0<z)(h:k<strN z n):z*k<n:=by
 unfold strN at h
 have h1:k+1≤(n+(z-1))/z:=h
 rw [Nat.le_div_iff_mul_le hz,Nat.add_mul,Nat.mul_comm k z]at h1
 omega
def strL(z:Nat)(S:Nat→List Byte)(b:List Byte):List Byte:=strF z S b (strN z b.length)
theorem strL_length(z:Nat)(hz:0<z)(S:Nat→List Byte)(hS:∀k,(S k).length=z)(b:List Byte):(strL z S b).length=b.length:=by
 rw [strL,strF_length z S hS]
 have:=strN_le z b.length hz
 omega
theorem body1_any(g gs kv sv n:Nat)(tw ms:List Byte)(W:List (BitVec 32))(y v:List (BitVec 32))(r b:List Byte)(hy:y.length=5)(hv:v.length=5)(hr:r.length=16)(hb:b.length=16*n)(hn:n≤64)(p:Option Addr)(c:Nat)(w0 w:World)(R:List Blk)(h:AdR w0 g tw ms W)(hrd:∀wx X,Own w0 wx (X::R)→RdB wx p b)(hk:Has R ⟨kv,123,[.pointer (some ⟨g,0,none⟩)]⟩)(hs:Has R ⟨sv,270,[.pointer (some ⟨gs,0,none⟩)]⟩)(hm:Own w0 w (⟨gs,279,psC y v r 0⟩::R)):
   Calls Tryz.prog 194 #[.slice p b.length c, .pointer (some ⟨kv,0,none⟩), .pointer (some ⟨sv,0,none⟩)] w fun e w'=>e= .returned (.tuple #[])∧Own w0 w' (⟨gs,279,psC y (pvF y (nhL W b) v 2) (pwR r (nhL W b)) 0⟩::R):=by
 obtain⟨gw,h1,h2,l1,l2,l3⟩:=h
 have HR:=hid fun w (hx:Ext w0 w)=>row_ext h1 hx
 have EW:=hid (akC_w tw ms gw l1 l2)
 have NH:=hid fun (w:World)(hx:Ext w0 w)(hr:RdB w p b)=>nhash_any gw n W b l3 hb hn p c w hr (row_ext h2 hx)
 have RB:=hid hrd
 have HK:=hid hk
 have HS:=hid hs
 have lH:=nhL_length W b
 obtain⟨H,hH⟩:=exq (nhL W b)
 rw [←hH]at NH lH⊢
 have LH:=hid lH
 have WR:=hid fun (q:Option Addr)(d:Nat)(hd:32≤d)(w:World)(X:Blk)(hrd:∀wx Y,Own w0 wx (Y::X::R)→RdB wx q H)(hm:Own w0 w (⟨gs,279,psC y v r 0⟩::X::R))=>(show Calls Tryz.prog 191 #[.pointer (some ⟨gs,0,none⟩), .slice q 32 d] w fun e w'=>e= .returned (.tuple #[])∧Own w0 w' (⟨gs,279,psC y (pvF y H v 2) (pwR r H) 0⟩::X::R)from by
   have:=pwrite_any gs y v r H hy hv hr (by omega) q d (by omega) w0 w (X::R) hrd hm
   rw [lH]at this
   exact this)
 have h3:=Nat.le_of_eq lH
 have h4:=Nat.le_of_eq lH.symm
 obtain⟨BL,hBL⟩:=exq (b.length)
 rw [←hBL]at NH⊢
 clear h1 h2 l1 l2 l3 hk hs hrd hH hb hBL lH
 go_enter Tryz.func194,Tryz.ntmps194
 go_wp2_with (first|((with_reducible apply wq_ld1 hm);exact rfl;infer_instance;exact rfl;exact(.tl HK.out);exact rfl)|((with_reducible apply wq_row1 (HR.out _ hm.x));exact rfl;infer_instance;exact rfl;exact EW.out)|(go_at_call 195;(with_reducible refine(NH.out _ hm.x (RB.out _ _ hm)).mono ?_);rintro e_ w ⟨rfl,hx_⟩;replace hm:=hm.ext hx_;clear hx_)|((with_reducible show qSt);refine zE hm ?_;clear hm;intro w hm)|(((with_reducible show qAl);refine zG hm ?_);clear hm;(first|(have hx_:=g1;clear hx_;intro gx_)|intro g1);intro w hm))
 have hm2:=hm
 have G1:=hid fun wx (hx:Ext w wx)=>hm2.ext hx
 clear hm2
 refine rgE 2 18 ?_
 simp only [zTa]
 repeat (first
     |(apply walk_is rfl rfl rfl;(intro wx hwx;(with_reducible apply gq_ld1 (G1.out wx hwx));infer_instance;exact rfl;exact(.tl (.tl HS.out));exact rfl);(simp only [zPu];rfl))
     | (apply walk_is rfl rfl rfl
        · (intro wx hwx;go_simp;(try go_bits);first|exact gives_same|exact gives_skip)
        · (simp only [zPu];rfl))
     | (apply walk_not rfl rfl rfl
        · (simp only [zPu];rfl)))
 intro wz hwz
 simp only [zZi]
 repeat (first|rw [fin_is]|(rw [fin_cons];intro _ _))
 rw [fin_nil]
 try (replace hm:=hm.ext hwz)
 simp only [zPu]
 go_wp2_with fail
 refine(WR.out _ _ (by omega) _ _ (fun wx Y hX=>hX.rdB (g:=g1) (l:=H) (.tl .hd)) hm.pull1).mono ?_
 rintro e_ w ⟨rfl,hm1⟩
 replace hm:=hm1
 clear hm1
 go_wp2_with fail
 go_end0
 exact⟨rfl,hm.pull1.drop⟩
def bdF(W:List (BitVec 32))(y:List (BitVec 32))(B:List Byte):Nat→List (BitVec 32)×List Byte
 |0=>(zer 5,zer 16)
 |k+1=>(pvF y (nhL W ((B.drop (1024*k)).take 1024)) (bdF W y B k).1 2,pwR (bdF W y B k).2 (nhL W ((B.drop (1024*k)).take 1024)))
theorem bdF_len(W:List (BitVec 32))(y:List (BitVec 32))(B:List Byte)(k:Nat):(bdF W y B k).1.length=5∧(bdF W y B k).2.length=16:=by
 induction k with
 |zero=>exact⟨zer_length,zer_length⟩
 |succ k ih=>exact⟨pvF_length _ _ _ _ ih.1,pwR_length _ _ ih.2⟩
abbrev doV(kv sv:Nat):Value:= .func (.func 194) #[] #[.pointer (some ⟨kv,0,none⟩), .pointer (some ⟨sv,0,none⟩)]
theorem pieces_any(g gs kv sv m:Nat)(tw ms:List Byte)(W:List (BitVec 32))(y:List (BitVec 32))(B:List Byte)(hy:y.length=5)(hb:B.length=16*m)(hB:B.length≤70368744177000)(p:Option Addr)(c:Nat)(hc:B.length≤c)(w0 w:World)(R:List Blk)(h:AdR w0 g tw ms W)(hrd:∀wx X,Own w0 wx (X::R)→RdB wx p B)(hk:Has R ⟨kv,123,[.pointer (some ⟨g,0,none⟩)]⟩)(hs:Has R ⟨sv,270,[.pointer (some ⟨gs,0,none⟩)]⟩)(hm:Own w0 w (⟨gs,279,psC y (zer 5) (zer 16) 0⟩::R)):
   Calls Tryz.prog 193 #[.slice p B.length c,doV kv sv] w fun e w'=>e= .returned (.tuple #[])∧Own w0 w' (⟨gs,279,psC y (bdF W y B (strN 1024 B.length)).1 (bdF W y B (strN 1024 B.length)).2 0⟩::R):=by
 have BD:=hid fun (k:Nat)(w:World)(q:Option Addr)(d n:Nat)(hn:n≤64)(hl:((B.drop (1024*k)).take 1024).length=16*n)(hrd:∀wx X,Own w0 wx (X::R)→RdB wx q ((B.drop (1024*k)).take 1024))(hm:Own w0 w (⟨gs,279,psC y (bdF W y B k).1 (bdF W y B k).2 0⟩::R))=>(show Calls Tryz.prog 194 #[.slice q ((B.drop (1024*k)).take 1024).length d, .pointer (some ⟨kv,0,none⟩), .pointer (some ⟨sv,0,none⟩)] w fun e w'=>e= .returned (.tuple #[])∧Own w0 w' (⟨gs,279,psC y (bdF W y B (k+1)).1 (bdF W y B (k+1)).2 0⟩::R)from
   body1_any g gs kv sv n tw ms W y (bdF W y B k).1 (bdF W y B k).2 ((B.drop (1024*k)).take 1024) hy (bdF_len W y B k).1 (bdF_len W y B k).2 hl hn q d w0 w R h hrd hk hs hm)
 have D0:Hid (bdF W y B 0=(zer 5,zer 16)):=hid rfl
 obtain⟨D,hD⟩:∃D,D=bdF W y B:=⟨_,rfl⟩
 rw [←hD]at BD D0⊢
 have RD:=hid hrd
 have HB:=hid hb
 have HC:=hid hc
 have NL:=hid (strN_le 1024 B.length (by omega))
 have NT:=hid fun k (h:k<strN 1024 B.length)=>strN_lt 1024 B.length k (by omega) h
 have HBB:=hid hB
 clear hrd hk hs hb hc hD h hB
 go_enter Tryz.func193,Tryz.ntmps193
 go_wp2_with fail
 refine wp_scope_goto 0 (fun a_ w_=>∃(k L e:Nat)(q:Option Addr)(u2 u3 u4 u5 u6 u7 u8 u9 u10 u11 u12 u13 u14 u15 u16 u17 u18:Value),a_={tmps:= #[(.slice q L e),(doV kv sv),u2,u3,u4,u5,u6,u7,u8,u9,u10,u11,u12,u13,u14,u15,u16,u17,u18],defers:=[]}∧L=B.length-1024*k∧k≤strN 1024 B.length∧L≤e∧(∀wx X,Own w0 wx (X::R)→RdB wx q (B.drop (1024*k)))∧Own w0 w_ (⟨gs,279,psC y (D k).1 (D k).2 0⟩::R)) (fun a_ _=>slen (a_.tmps.getD 0 undef)) rfl ?_ ?_
 · clear hm
   rintro a' w ⟨k,L,e,q,u2,u3,u4,u5,u6,u7,u8,u9,u10,u11,u12,u13,u14,u15,u16,u17,u18,rfl,⟨hL,hk,hLe,hrd,hm⟩⟩
   by_cases h0:L=0
   · have hkn:k=strN 1024 B.length:=by
       apply Classical.byContradiction;intro h
       have:=NT.out k (by omega)
       omega
     subst hkn
     subst h0
     clear hL hLe hrd
     go_wp2_with fail
     simp only [Exit.jump]
     refine bodyPost_ret (results_none rfl _ _ _) rfl ?_
     exact⟨rfl,hm⟩
   · have hlt:k<strN 1024 B.length:=by
       apply Classical.byContradiction;intro h
       have hkn:k=strN 1024 B.length:=by omega
       have:=NL.out
       rw [hkn]at hL
       omega
     obtain⟨M,hM⟩:=exq (min L 1024)
     have M1:M≤L:=by omega
     have e0:((L:Int)==0)=false:=by rw [beq_eq_false_iff_ne];omega
     have e1:¬(L:Int)=0:=by omega
     have lM:((B.drop (1024*k)).take 1024).length=M:=by rw [List.length_take,List.length_drop,hM,←hL,Nat.min_comm]
     have lP:((B.drop (1024*k)).take 1024).length=16*(M/16):=by
       rw [lM];have:=HB.out;omega
     have BK:=hid fun w (hm:Own w0 w (⟨gs,279,psC y (D k).1 (D k).2 0⟩::R))=>BD.out k w q e (M/16) (by omega) lP (fun wx X h=>(hrd wx X h).take 1024) hm
     rw [lM]at BK
     have RD3:Hid (∀wx X,Own w0 wx (X::R)→RdB wx (slP q e M) (B.drop (1024*(k+1)))):=hid (fun wx X h=>by
       have h1:=(hrd wx X h).slL e M (by rw [List.length_drop,←hL];exact hLe)
       rw [List.drop_drop]at h1
       by_cases hz:L≤1024
       · rw [List.drop_of_length_le (by omega)]at h1⊢
         exact h1
       · rwa [show 1024*k+M=1024*(k+1)from by omega]at h1)
     have Me:M≤e:=by omega
     have HM:=hid hM
     have HL:=hid hL
     have HLT:=hid hlt
     have HLE:=hid hLe
     have L47:L≤70368744177000:=by have:=HBB.out;omega
     clear lM lP hM hL hLe hrd hlt h0
     by_cases hle:L≤1024
     · obtain rfl:M=L:=by have:=HM.out;omega
       have hi:(M:Int)≤1024:=by omega
       go_wp2_with (first|((with_reducible apply wq_slH Tryz.underlying22);infer_instance;exact rfl;exact rfl;exact rfl;exact Me))
       refine(BK.out _ hm).mono ?_
       rintro e_ w ⟨rfl,hm1⟩
       replace hm:=hm1
       clear hm1
       go_wp2_with (first|((with_reducible apply wq_slL (l:=M) Tryz.underlying22);infer_instance;exact rfl;exact rfl;exact rfl;exact M1;exact rfl))
       go_step3
       refine⟨rfl,⟨_,_,_,_,_,_,_,_,_,_,_,_,_,_,_,_,_,_,_,_,_,rfl,⟨(show 0=B.length-1024*(k+1)from by have:=HL.out;have:=HM.out;omega),HLT.out,(by have:=HLE.out;omega),RD3.out,hm⟩⟩, ?_⟩
       show 0<M
       omega
     · obtain rfl:M=1024:=by have:=HM.out;omega
       have hi:¬(L:Int)≤1024:=by omega
       have hi2:(1024:Int)≤(L:Int):=by omega
       go_wp2_with (first|((with_reducible apply wq_slH Tryz.underlying22);infer_instance;exact rfl;exact rfl;exact rfl;exact Me))
       refine(BK.out _ hm).mono ?_
       rintro e_ w ⟨rfl,hm1⟩
       replace hm:=hm1
       clear hm1
       go_wp2_with (first|((with_reducible apply wq_slL (l:=1024) Tryz.underlying22);infer_instance;exact rfl;exact rfl;exact rfl;exact M1;exact rfl))
       go_step3
       refine⟨rfl,⟨_,_,_,_,_,_,_,_,_,_,_,_,_,_,_,_,_,_,_,_,_,rfl,⟨(show L-1024=B.length-1024*(k+1)from by have:=HL.out;have:=HM.out;omega),HLT.out,(by have:=HLE.out;omega),RD3.out,hm⟩⟩, ?_⟩
       show L-1024<L
       omega
 · intro hp
   go_wp2_with fail
   go_step3
   rename_i hK
   exact hK _ _ (hp _ _ ⟨_,_,_,_,_,_,_,_,_,_,_,_,_,_,_,_,_,_,_,_,_,rfl,⟨rfl,Nat.zero_le _,HC.out,fun wx X h=>RD.out wx X h,by rw [D0.out];exact hm⟩⟩)
theorem padded_new(l:List Byte)(p:Option Addr)(c:Nat)(s:Int)(w:World)(h:RdB w p l)(hl:l.length≤140737488355328)(h0: -9223372036854775808≤s)(h1:s≤2147483648):
   Calls Tryz.prog 109 #[.slice p l.length c, .int .i64 s] w fun e w'=>∃g,e= .returned (.slice (some ⟨g,0,none⟩) (pad l s).length (pad l s).length)∧w.heap.size≤g∧Row w' g 5 ((pad l s).map v8)∧Ext w w':=by
 have hr:=roomN_lt l.length s
 have hx:Ext w (w.alloc (.cells ((zeros (l.length+roomN l.length s)).map v8).toArray 5)):=(Ext.refl w).alloc _
 have hrow:=row_new w 5 ((zeros (l.length+roomN l.length s)).map v8)
 have hbb:=h.ext hx
 go_enter Tryz.func109,Tryz.ntmps109
 go_wp2_with (first|(go_at_call 131;refine(room_any l.length s _ (by omega) h0 (by omega)).mono ?_;rintro e w' ⟨rfl,rfl⟩)|(with_reducible show wpList _ _ _ _ _ _;refine make_b (l.length+roomN l.length s) rfl rfl rfl rfl (by omega) (by omega) (by omega) ?_)|(with_reducible show wpList _ _ _ _ _ _;refine wpl_copy (over_pad' l s) rfl rfl rfl rfl rfl rfl (by kernel_rfl) hrow (by simp [zeros_length]) hbb ?_))
 go_ret
 refine⟨w.heap.size, ?_,Nat.le_refl _,row_setRow hrow _,ext_setRow hx _ _ (Nat.le_refl _)⟩
 simp [pad]
def bdV(ms:List Byte)(W:List (BitVec 32))(b:List Byte):List (BitVec 32):=(bdF W (ofL (clB ms 3) 0#32) (pad b 16) (strN 1024 (pad b 16).length)).1
theorem abody_any(g:Nat)(tw ms b:List Byte)(W:List (BitVec 32))(hb:b.length≤1000000)(p:Option Addr)(c:Nat)(w0:World)(h:AdR w0 g tw ms W)(hr:RdB w0 p b):
   Gives Tryz.prog 185 #[.pointer (some ⟨g,0,none⟩), .slice p b.length c] w0 (WV (num (lowB (bdV ms W b)) 0 8) (num (lowB (bdV ms W b)) 8 8)):=by
 unfold Gives
 have hm:=Own.start w0
 have HA:=hid h
 obtain⟨gw,h1,_,htw,hms,_⟩:=h
 have HR:=hid fun w (hx:Ext w0 w)=>row_ext h1 hx
 have EM:=hid (akC_ms tw ms gw htw hms)
 have HMS:=hid hms
 obtain⟨y,hy⟩:∃y,y=ofL (clB ms 3) 0#32:=⟨_,rfl⟩
 have ly:y.length=5:=by rw [hy];exact ofL_length _ _
 have PN:=hid fun w=>(show Calls Tryz.prog 190 #[A8 ms] w fun e w'=>∃g,e= .returned (.pointer (some ⟨g,0,none⟩))∧w.heap.size≤g∧Row w' g 279 (psC y (zer 5) (zer 16) 0)∧Ext w w' from by rw [hy];exact pnew_any ms hms w)
 have PD:=hid fun w (hx:Ext w0 w)=>padded_new b p c 16 w (hr.ext hx) (by omega) (by omega) (by omega)
 have lB:(pad b 16).length=16*((pad b 16).length/16):=by
   have:=room_is b.length 16 (by omega)
   rw [show(pad b 16).length=b.length+roomN b.length 16 from by simp [pad]]
   omega
 have lB2:(pad b 16).length≤1000016:=by
   have:=roomN_lt b.length 16
   simp only [pad,List.length_append,List.length_replicate]
   omega
 have EV:Hid (bdV ms W b=(bdF W y (pad b 16) (strN 1024 (pad b 16).length)).1):=hid (by rw [hy];rfl)
 obtain⟨B,hB⟩:=exq (pad b 16)
 rw [←hB]at PD lB lB2 EV
 have PC:=hid fun (gs kv sv:Nat)(q:Option Addr)(w:World)(R:List Blk)(hrd:∀wx X,Own w0 wx (X::R)→RdB wx q B)(hk:Has R ⟨kv,123,[.pointer (some ⟨g,0,none⟩)]⟩)(hs:Has R ⟨sv,270,[.pointer (some ⟨gs,0,none⟩)]⟩)(hm:Own w0 w (⟨gs,279,psC y (zer 5) (zer 16) 0⟩::R))=>pieces_any g gs kv sv _ tw ms W y B ly lB (by omega) q B.length (Nat.le_refl _) w0 w R HA.out hrd hk hs hm
 have LD:=bdF_len W y B (strN 1024 B.length)
 have NU:=hid fun (gs:Nat)(w:World)(h:Row w gs 279 (psC y (bdF W y B (strN 1024 B.length)).1 (bdF W y B (strN 1024 B.length)).2 0))=>anumber_any gs y (bdF W y B (strN 1024 B.length)).1 (bdF W y B (strN 1024 B.length)).2 ly LD.1 LD.2 w h
 rw [←EV.out]at NU PC
 clear h1 hr hy hB lB lB2 LD EV hb
 go_enter Tryz.func185,Tryz.ntmps185
 go_wp2_with (first|((with_reducible apply wq_box1 (v:= .pointer (some ⟨g,0,none⟩)) hm);exact rfl;exact rfl;exact rfl;clear hm;intro gk w hm)|((with_reducible apply wq_st1 (v:= .pointer (some ⟨gs,0,none⟩)) hm);exact rfl;infer_instance;exact rfl;exact rfl;exact rfl;exact rfl;exact .hd;exact(show 0<1 from by omega);clear hm;intro w hm)|((with_reducible apply wq_rowN (HR.out _ hm.x));exact rfl;infer_instance;exact rfl;exact EM.out;exact(by rw [List.length_map];exact HMS.out))|(go_at_call 190;(with_reducible refine(PN.out _).mono ?_);rintro e_ w ⟨gs,rfl,hg_,hr_,hx_⟩;replace hm:=hm.push hx_ hg_ hr_;clear hx_ hg_ hr_)|(go_at_call 109;(with_reducible refine(PD.out _ hm.x).mono ?_);rintro e_ w ⟨gp,rfl,hg_,hr_,hx_⟩;replace hm:=hm.push hx_ hg_ hr_;clear hx_ hg_ hr_)|((with_reducible show qLd);refine zC hm ?_)|(((with_reducible show qAl);refine zG hm ?_);clear hm;(first|(have hx_:=g1;clear hx_;(first|(have hx_:=g2;clear hx_;intro gx_)|intro g2))|intro g1);intro w hm))
 refine(PC.out gs gk g2 _ w _ (fun wx X h=>h.rdB (g:=gp) (l:=B) (.tl .hd)) (.tl (.tl (.tl .hd))) (.tl .hd) hm.pull2).mono ?_
 rintro e_ w ⟨rfl,hm1⟩
 replace hm:=hm1
 clear hm1
 go_wp2_with (first|(go_at_call 192;(with_reducible refine(NU.out gs _ (hm.row .hd)).mono ?_);rintro e_ w ⟨rfl,hx_⟩;replace hm:=hm.ext hx_;clear hx_)|((with_reducible show qLd);refine zC hm ?_)|((with_reducible show qSt);refine zE hm ?_;clear hm;intro w hm))
 trace "T1"
 trace_state
 refine rtO hm rfl rfl ⟨rfl,hm.x⟩
def asLo(tw ms t b:List Byte)(W:List (BitVec 32)):BitVec 64:=num (lowB (hdV tw t b.length)) 0 8+num (lowB (bdV ms W b)) 0 8
def asHi(tw ms t b:List Byte)(W:List (BitVec 32)):BitVec 64:=num (lowB (hdV tw t b.length)) 8 8+num (lowB (bdV ms W b)) 8 8+carryB (num (lowB (hdV tw t b.length)) 0 8) (num (lowB (bdV ms W b)) 0 8) 0#64
theorem asum_any(g:Nat)(tw ms t b:List Byte)(W:List (BitVec 32))(ht:t.length≤70368744177000)(hb:b.length≤1000000)(p q:Option Addr)(c d:Nat)(hc:t.length≤c)(w0:World)(h:AdR w0 g tw ms W)(hr:RdB w0 p t)(hq:RdB w0 q b):
   Gives Tryz.prog 177 #[.pointer (some ⟨g,0,none⟩), .slice p t.length c, .slice q b.length d] w0 (WV (asLo tw ms t b W) (asHi tw ms t b W)):=by
 unfold Gives
 have hm:=Own.start w0
 have H1:=hid fun w (hx:Ext w0 w)=>ahead12_any g tw ms t W b.length hb ht p c hc w (h.ext hx) (hr.ext hx)
 have H2:=hid fun w (hx:Ext w0 w)=>abody_any g tw ms b W hb q d w (h.ext hx) (hq.ext hx)
 have PL:=hid fun w=>(show Gives Tryz.prog 132 #[WV (num (lowB (hdV tw t b.length)) 0 8) (num (lowB (hdV tw t b.length)) 8 8),WV (num (lowB (bdV ms W b)) 0 8) (num (lowB (bdV ms W b)) 8 8)] w (WV (asLo tw ms t b W) (asHi tw ms t b W))from oplus_any _ _ _ _ w)
 generalize asLo tw ms t b W=lo at*
 generalize asHi tw ms t b W=hi at*
 generalize num (lowB (hdV tw t b.length)) 0 8=a at*
 generalize num (lowB (hdV tw t b.length)) 8 8=a' at*
 generalize num (lowB (bdV ms W b)) 0 8=e at*
 generalize num (lowB (bdV ms W b)) 8 8=e' at*
 clear h hr hq
 go_enter Tryz.func177,Tryz.ntmps177
 go_wp2_with (first|(go_at_call 184;(with_reducible refine(H1.out _ hm.x).mono ?_);rintro e_ w ⟨rfl,hx_⟩;replace hm:=hm.ext hx_;clear hx_)|(go_at_call 185;(with_reducible refine(H2.out _ hm.x).mono ?_);rintro e_ w ⟨rfl,hx_⟩;replace hm:=hm.ext hx_;clear hx_)|(go_at_call 132;(with_reducible refine(PL.out _).mono ?_);rintro e_ w ⟨rfl,hx_⟩;replace hm:=hm.ext hx_;clear hx_)|((with_reducible show qSt);refine zE hm ?_;clear hm;intro w hm)|(((with_reducible show qAl);refine zG hm ?_);clear hm;intro gx_;intro w hm))
 refine rtO hm rfl rfl ⟨rfl,hm.x⟩
def OneV(w0:World)(L:List Blk)(T:TypeId)(z x:List Value)(s:List (Option Value))(w:World):Prop:=
 ∃a b,s=[a,b]∧((a=none∧b=none∧Own w0 w L)∨∃g,a=some (.pointer (some ⟨g,0,none⟩))∧((b=none∧Own w0 w (⟨g,T,z⟩::L))∨∃u,b=some u∧Own w0 w (⟨g,T,x⟩::L)))
section
variable {w0 w:World} {L:List Blk} {T:TypeId} {z x:List Value} {s:List (Option Value)}
theorem OneV.ext(s:List (Option Value))(w w':World)(h:OneV w0 L T z x s w)(hx:Ext w w'):OneV w0 L T z x s w':=by
 obtain⟨a,b,rfl,h⟩:=h
 refine⟨a,b,rfl, ?_⟩
 rcases h with ⟨h1,h2,h3⟩|⟨g,h1,h2⟩
 · exact .inl ⟨h1,h2,h3.ext hx⟩
 · refine .inr ⟨g,h1, ?_⟩
   rcases h2 with ⟨h3,h4⟩|⟨u,h3,h4⟩
   · exact .inl ⟨h3,h4.ext hx⟩
   · exact .inr ⟨u,h3,h4.ext hx⟩
theorem OneV.start(h:Own w0 w L):OneV w0 L T z x (List.replicate 2 none) w:=⟨none,none,rfl, .inl ⟨rfl,rfl,h⟩⟩
theorem OneV.low(h:OneV w0 L T z x s w):Own w0 w L:=by
 obtain⟨a,b,rfl,h⟩:=h
 rcases h with ⟨_,_,h⟩|⟨g,_,⟨_,h⟩|⟨_,_,h⟩⟩
 · exact h
 · exact h.drop
 · exact h.drop
theorem OneV.na(h:OneV w0 L T z x s w)(hn:s[0]? =some none):Own w0 w L∧∀g w',Own w0 w' (⟨g,T,z⟩::L)→OneV w0 L T z x (s.set 0 (some (.pointer (some ⟨g,0,none⟩)))) w':=by
 obtain⟨a,b,rfl,h⟩:=h
 obtain rfl:a=none:=by simpa using hn
 rcases h with ⟨_,h2,h3⟩|⟨g,h1,_⟩
 · exact⟨h3,fun g w' hm=>⟨_,b,rfl, .inr ⟨g,rfl, .inl ⟨h2,hm⟩⟩⟩⟩
 · cases h1
theorem OneV.sa {v:Value}(h:OneV w0 L T z x s w)(hn:s[1]? =some none)(hv:s[0]? =some (some v)):∃g,v= .pointer (some ⟨g,0,none⟩)∧Own w0 w (⟨g,T,z⟩::L)∧∀u w',Own w0 w' (⟨g,T,x⟩::L)→OneV w0 L T z x (s.set 1 (some u)) w':=by
 obtain⟨a,b,rfl,h⟩:=h
 obtain rfl:b=none:=by simpa using hn
 obtain rfl:a=some v:=by simpa using hv
 rcases h with ⟨h1,_⟩|⟨g,h1,⟨_,h3⟩|⟨_,h3,_⟩⟩
 · cases h1
 · exact⟨g,Option.some.inj h1,h3,fun u w' hm=>⟨_,some u,rfl, .inr ⟨g,h1, .inr ⟨u,rfl,hm⟩⟩⟩⟩
 · cases h3
theorem OneV.fin {v:Value}(h:OneV w0 L T z x s w)(hv:s[0]? =some (some v))(hl:∀i,i<2→∃x,s[i]? =some (some x)):∃g,v= .pointer (some ⟨g,0,none⟩)∧Own w0 w (⟨g,T,x⟩::L):=by
 obtain⟨a,b,rfl,h⟩:=h
 obtain rfl:a=some v:=by simpa using hv
 obtain⟨y,hy⟩:=hl 1 (by omega)
 simp at hy
 subst hy
 rcases h with ⟨h1,_⟩|⟨g,h1,⟨h3,_⟩|⟨_,_,h3⟩⟩
 · cases h1
 · cases h3
 · exact⟨g,Option.some.inj h1,h3⟩
end
def xchB(own nonce:List Byte)(k:Nat):List Byte:=blkB own (putL (BitVec.ofNat 64 k) 8++nonce.drop 16)
theorem xchB_length(own nonce:List Byte)(k:Nat):(xchB own nonce k).length=64:=blkB_length _ _
def xchL(key nonce b:List Byte):List Byte:=strL 64 (xchB (shoB key (nonce.take 16)) nonce) b
theorem xchL_length(key nonce b:List Byte):(xchL key nonce b).length=b.length:=strL_length 64 (by omega) _ (xchB_length _ _) b
theorem ccrypt12o(key nonce b:List Byte)(hk:key.length=32)(hn:nonce.length=24)(hb:b.length≤70368744177000)(p:Option Addr)(c:Nat)(w0:World)(hr:RdB w0 p b)(hc:b.length≤c):
   Calls Tryz.prog 64 #[A8 key,A8 nonce, .int .i64 12, .slice p b.length c] w0 fun e w'=>∃v M R,e= .returned (.tuple #[v, .int .i64 0])∧Own w0 w' (M++R)∧SlO M 5 1 v b.length ((xchL key nonce b).map v8):=by
 have hm:=Own.start w0
 have lN:(nonce.take 16).length=16:=by rw [List.length_take];omega
 have SH:=hid fun w=>short12 key (nonce.take 16) hk lN w
 have EN:=hid (show((nonce.map v8).drop 0).take 16=(nonce.take 16).map v8 by rw [dZe,List.map_take])
 have EL:=hid (show xchL key nonce b=strF 64 (xchB (shoB key (nonce.take 16)) nonce) b (strN 64 b.length)from rfl)
 have lO:=shoB_length key (nonce.take 16)
 have RL:=hid (xchL_length key nonce b)
 have EN2:Hid ((nonce.take 16).length=16):=hid lN
 generalize xchL key nonce b=RES at*
 generalize shoB key (nonce.take 16)=O at*
 generalize nonce.take 16=NA at*
 have LB:=hid fun k=>strF_length 64 (xchB O nonce) (xchB_length O nonce) b k
 have E0:=hid (show strF 64 (xchB O nonce) b 0=[]from rfl)
 have EK:=hid fun k=>(show strF 64 (xchB O nonce) b (k+1)=strF 64 (xchB O nonce) b k++xorL (b.drop (64*k)) (xchB O nonce k)from rfl)
 have BL:=hid fun (k:Nat)(IN:List Byte)(h1:IN.length=16)(h2:IN.drop 8=nonce.drop 16)(w:World)=>(show(over IN 0 (putL (BitVec.ofNat 64 k) 8)).length=16∧(over IN 0 (putL (BitVec.ofNat 64 k) 8)).drop 8=nonce.drop 16∧Gives Tryz.prog 80 #[A8 O,A8 (over IN 0 (putL (BitVec.ofNat 64 k) 8)), .int .i64 12] w (.tuple #[A8 (xchB O nonce k), .int .i64 0])from by
   have e:over IN 0 (putL (BitVec.ofNat 64 k) 8)=putL (BitVec.ofNat 64 k) 8++nonce.drop 16:=by
     rw [over,tZe,List.nil_append,putL_length,Nat.zero_add,h2]
   have l:(over IN 0 (putL (BitVec.ofNat 64 k) 8)).length=16:=by rw [over_length _ _ _ (by rw [putL_length];omega),h1]
   refine⟨l, ?_, ?_⟩
   · rw [e,List.drop_append_of_le_length (by rw [putL_length];omega),List.drop_of_length_le (by rw [putL_length];omega),List.nil_append]
   · rw [e]at l⊢
     exact block12 O _ lO l w)
 have lX:=fun k=>xchB_length O nonce k
 have NL:=hid (strN_le 64 b.length (by omega))
 have NT:=hid fun k (h:k<strN 64 b.length)=>strN_lt 64 b.length k (by omega) h
 generalize strF 64 (xchB O nonce) b=F at*
 generalize xchB O nonce=S at*
 generalize strN 64 b.length=n at*
 have LX:=hid lX
 have XO:=hid fun (k L e:Nat)(w:World)(q r:Option Addr)(d:Nat)(hL:(b.drop (64*k)).length=L)(h1:RdB w q (b.drop (64*k)))(h2:RdB w r (S k))=>(show GivesR Tryz.prog 81 #[.slice q L e, .slice r 64 d] w (BytesS (xorL (b.drop (64*k)) (S k)))from by
   have:=xor_any (b.drop (64*k)) (S k) q r e d w h1 h2 (by rw [List.length_drop];omega) (by rw [lX];omega)
   rwa [hL,lX]at this)
 have HR:=hid hr
 have HIN:Hid ((over (zer 16) 8 ((nonce.drop 16).take 8)).length=16∧(over (zer 16) 8 ((nonce.drop 16).take 8)).drop 8=nonce.drop 16):=hid (by
   have e1:(nonce.drop 16).take 8=nonce.drop 16:=List.take_of_length_le (by rw [List.length_drop];omega)
   rw [e1]
   refine⟨by rw [over_length _ _ _ (by rw [List.length_drop,zer_length];omega),zer_length], ?_⟩
   rw [over,List.drop_of_length_le (l:=zer 16) (by rw [zer_length,List.length_drop];omega),List.append_nil]
   exact List.drop_left' (by rw [List.length_take,zer_length];rfl))
 have LB0:=hid hb
 have HC:=hid hc
 have h1:=Nat.le_of_eq hk
 have h2:=Nat.le_of_eq hk.symm
 have h3:=Nat.le_of_eq hn
 have h4:=Nat.le_of_eq hn.symm
 have h5:=Nat.le_of_eq lO
 have h6:=Nat.le_of_eq lO.symm
 have HN:=hid hn
 clear hk hn lN lX hr
 generalize hBL0:b.length=BL0 at*
 have HBL:=hid hBL0
 clear hBL0
 go_enter Tryz.func64,Tryz.ntmps64
 go_wp2_with (first|(((with_reducible show qBx);refine zH hm ?_);clear hm;(first|(have hx_:=g1;clear hx_;(first|(have hx_:=g2;clear hx_;(first|(have hx_:=g3;clear hx_;(first|(have hx_:=g4;clear hx_;(first|(have hx_:=g5;clear hx_;intro gx_)|intro g5))|intro g4))|intro g3))|intro g2))|intro g1);intro w hm))
 refine wp_scope_goto 0 (fun a_ w_=>∃(k L e o d go gi:Nat)(q r:Option Addr)(i:BitVec 64)(IN:List Byte)(M:List Blk)(u6 u7 u11 u15 u16 u17 u18 u19 u20 u21 u22 u23 u24 u25 u26 u27 u28 u29 u30 u31 u32 u33 u34 u35 u36 u37 u38 u39 u40 u41 u42 u43 u44 u45 u46 u47 u48 u49 u50 u51 u52 u53 u54 u55 u56 u57 u58 u59 u60 u61 u62 u63 u64:Value),a_={tmps:= #[(A8 key),(A8 nonce),(.int .i64 12),(.slice q L e),(.pointer (some ⟨g1,0,none⟩)),(.pointer (some ⟨g2,0,none⟩)),u6,u7,(.slice none 0 0),(.int .i64 0),(.pointer (some ⟨go,0,none⟩)),u11,(.pointer (some ⟨gi,0,none⟩)),(.slice r o d),(v64 i),u15,u16,u17,u18,u19,u20,u21,u22,u23,u24,u25,u26,u27,u28,u29,u30,u31,u32,u33,u34,u35,u36,u37,u38,u39,u40,u41,u42,u43,u44,u45,u46,u47,u48,u49,u50,u51,u52,u53,u54,u55,u56,u57,u58,u59,u60,u61,u62,u63,u64],defers:=[]}∧SlO M 5 1 (.slice r o d) o ((F k).map v8)∧Own w0 w_ (M++[⟨gi,132,IN.map v8⟩,⟨go,121,O.map v8⟩,⟨g2,127,nonce.map v8⟩,⟨g1,121,key.map v8⟩])∧IN.length=16∧IN.drop 8=nonce.drop 16∧k≤n∧L=BL0-64*k∧L≤e∧i=BitVec.ofNat 64 k∧(0<L→RdB w0 q (b.drop (64*k)))) (fun a_ _=>slen (a_.tmps.getD 3 undef)) rfl ?_ ?_
 · clear hm
   have key_:∀(P_:Act→World→Prop),(∀(w_:World)(k L e o d go gi:Nat)(q r:Option Addr)(i:BitVec 64)(IN:List Byte)(M:List Blk)(u6 u7 u11 u15 u16 u17 u18 u19 u20 u21 u22 u23 u24 u25 u26 u27 u28 u29 u30 u31 u32 u33 u34 u35 u36 u37 u38 u39 u40 u41 u42 u43 u44 u45 u46 u47 u48 u49 u50 u51 u52 u53 u54 u55 u56 u57 u58 u59 u60 u61 u62 u63 u64:Value),SlO M 5 1 (.slice r o d) o ((F k).map v8)∧Own w0 w_ (M++[⟨gi,132,IN.map v8⟩,⟨go,121,O.map v8⟩,⟨g2,127,nonce.map v8⟩,⟨g1,121,key.map v8⟩])∧IN.length=16∧IN.drop 8=nonce.drop 16∧k≤n∧L=BL0-64*k∧L≤e∧i=BitVec.ofNat 64 k∧(0<L→RdB w0 q (b.drop (64*k)))→P_ {tmps:= #[(A8 key),(A8 nonce),(.int .i64 12),(.slice q L e),(.pointer (some ⟨g1,0,none⟩)),(.pointer (some ⟨g2,0,none⟩)),u6,u7,(.slice none 0 0),(.int .i64 0),(.pointer (some ⟨go,0,none⟩)),u11,(.pointer (some ⟨gi,0,none⟩)),(.slice r o d),(v64 i),u15,u16,u17,u18,u19,u20,u21,u22,u23,u24,u25,u26,u27,u28,u29,u30,u31,u32,u33,u34,u35,u36,u37,u38,u39,u40,u41,u42,u43,u44,u45,u46,u47,u48,u49,u50,u51,u52,u53,u54,u55,u56,u57,u58,u59,u60,u61,u62,u63,u64],defers:=[]} w_)→∀(a_:Act)(w_:World),(∃(k L e o d go gi:Nat)(q r:Option Addr)(i:BitVec 64)(IN:List Byte)(M:List Blk)(u6 u7 u11 u15 u16 u17 u18 u19 u20 u21 u22 u23 u24 u25 u26 u27 u28 u29 u30 u31 u32 u33 u34 u35 u36 u37 u38 u39 u40 u41 u42 u43 u44 u45 u46 u47 u48 u49 u50 u51 u52 u53 u54 u55 u56 u57 u58 u59 u60 u61 u62 u63 u64:Value),a_={tmps:= #[(A8 key),(A8 nonce),(.int .i64 12),(.slice q L e),(.pointer (some ⟨g1,0,none⟩)),(.pointer (some ⟨g2,0,none⟩)),u6,u7,(.slice none 0 0),(.int .i64 0),(.pointer (some ⟨go,0,none⟩)),u11,(.pointer (some ⟨gi,0,none⟩)),(.slice r o d),(v64 i),u15,u16,u17,u18,u19,u20,u21,u22,u23,u24,u25,u26,u27,u28,u29,u30,u31,u32,u33,u34,u35,u36,u37,u38,u39,u40,u41,u42,u43,u44,u45,u46,u47,u48,u49,u50,u51,u52,u53,u54,u55,u56,u57,u58,u59,u60,u61,u62,u63,u64],defers:=[]}∧SlO M 5 1 (.slice r o d) o ((F k).map v8)∧Own w0 w_ (M++[⟨gi,132,IN.map v8⟩,⟨go,121,O.map v8⟩,⟨g2,127,nonce.map v8⟩,⟨g1,121,key.map v8⟩])∧IN.length=16∧IN.drop 8=nonce.drop 16∧k≤n∧L=BL0-64*k∧L≤e∧i=BitVec.ofNat 64 k∧(0<L→RdB w0 q (b.drop (64*k))))→P_ a_ w_:=
     fun P_ h_ a_ w_ z=>z.elim fun k z=>z.elim fun L z=>z.elim fun e z=>z.elim fun o z=>z.elim fun d z=>z.elim fun go z=>z.elim fun gi z=>z.elim fun q z=>z.elim fun r z=>z.elim fun i z=>z.elim fun IN z=>z.elim fun M z=>z.elim fun u6 z=>z.elim fun u7 z=>z.elim fun u11 z=>z.elim fun u15 z=>z.elim fun u16 z=>z.elim fun u17 z=>z.elim fun u18 z=>z.elim fun u19 z=>z.elim fun u20 z=>z.elim fun u21 z=>z.elim fun u22 z=>z.elim fun u23 z=>z.elim fun u24 z=>z.elim fun u25 z=>z.elim fun u26 z=>z.elim fun u27 z=>z.elim fun u28 z=>z.elim fun u29 z=>z.elim fun u30 z=>z.elim fun u31 z=>z.elim fun u32 z=>z.elim fun u33 z=>z.elim fun u34 z=>z.elim fun u35 z=>z.elim fun u36 z=>z.elim fun u37 z=>z.elim fun u38 z=>z.elim fun u39 z=>z.elim fun u40 z=>z.elim fun u41 z=>z.elim fun u42 z=>z.elim fun u43 z=>z.elim fun u44 z=>z.elim fun u45 z=>z.elim fun u46 z=>z.elim fun u47 z=>z.elim fun u48 z=>z.elim fun u49 z=>z.elim fun u50 z=>z.elim fun u51 z=>z.elim fun u52 z=>z.elim fun u53 z=>z.elim fun u54 z=>z.elim fun u55 z=>z.elim fun u56 z=>z.elim fun u57 z=>z.elim fun u58 z=>z.elim fun u59 z=>z.elim fun u60 z=>z.elim fun u61 z=>z.elim fun u62 z=>z.elim fun u63 z=>z.elim fun u64 z=>Eq.subst (motive:=fun z_=>P_ z_ w_) z.1.symm (h_ w_ k L e o d go gi q r i IN M u6 u7 u11 u15 u16 u17 u18 u19 u20 u21 u22 u23 u24 u25 u26 u27 u28 u29 u30 u31 u32 u33 u34 u35 u36 u37 u38 u39 u40 u41 u42 u43 u44 u45 u46 u47 u48 u49 u50 u51 u52 u53 u54 u55 u56 u57 u58 u59 u60 u61 u62 u63 u64 z.2)
   refine key_ _ ?_
   clear key_
   intro w k L e o d go gi q r i IN M u6 u7 u11 u15 u16 u17 u18 u19 u20 u21 u22 u23 u24 u25 u26 u27 u28 u29 u30 u31 u32 u33 u34 u35 u36 u37 u38 u39 u40 u41 u42 u43 u44 u45 u46 u47 u48 u49 u50 u51 u52 u53 u54 u55 u56 u57 u58 u59 u60 u61 u62 u63 u64
   rintro ⟨hso,hm,hi1,hi2,hkn,hL,hLe,hiv,hrd⟩
   by_cases h0:L=0
   · have hkn2:k=n:=by
       apply Classical.byContradiction;intro h
       have:=NT.out k (by omega)
       omega
     subst hkn2
     subst h0
     obtain⟨_,_,hv,hnc0,_,_⟩:=hso.cells hm
     cases hv
     have ho:o=BL0:=by
       have h1:=hso.1
       rw [List.length_map,LB.out,Nat.mul_one]at h1
       have:=NL.out
       omega
     subst ho
     rw [←EL.out]at hso
     have HSO:=hid hso
     clear hso hnc0 hi1 hi2 hL hLe hiv hrd
     go_wp2_with fail
     simp only [Exit.jump]
     go_ret2
     exact⟨_,M,_,rfl,hm,HSO.out⟩
   · have hlt:k<n:=by
       apply Classical.byContradiction;intro h
       have hkn2:k=n:=by omega
       subst hkn2
       have:=NL.out
       omega
     have hrd1:=hid fun wx (hx:Ext w0 wx)=>(hrd (by omega)).ext hx
     have hrd0:=hid (hrd (by omega))
     have lD:(b.drop (64*k)).length=L:=by rw [List.length_drop,HBL.out,hL]
     have XR:=hid fun (wx:World)(r:Option Addr)(d:Nat)(h1:RdB wx q (b.drop (64*k)))(h2:RdB wx r (S k))=>XO.out k L e wx q r d lD h1 h2
     have lXX:(xorL (b.drop (64*k)) (S k)).length=min L 64:=by rw [xorL_length,lD,LX.out]
     have EKK:=hid (EK.out k)
     have BLL:=hid fun wx=>BL.out k IN hi1 hi2 wx
     have FL:=hid (LB.out k)
     have RDN:=hid fun (wx:World)(h:RdB wx q (b.drop (64*k)))(m:Nat)=>(show RdB wx (slP q e m) ((b.drop (64*k)).drop m)from h.slL e m (by rw [lD];exact hLe))
     have EDD:=hid (show(b.drop (64*k)).drop 64=b.drop (64*(k+1))by rw [List.drop_drop,Nat.mul_succ])
     obtain⟨m,hmL⟩:∃m,m=min L 64:=⟨_,rfl⟩
     rw [←hmL]at lXX
     have hm1:m≤L:=by omega
     have HML:=hid hmL
     have LXX:=hid lXX
     have HSO:=hid hso
     have HLE:=hid hLe
     have HL:=hid hL
     have HNK:=hid hlt
     have HIV:=hid hiv
     have LXM:=hid (show((xorL (b.drop (64*k)) (S k)).map v8).length=m*1 by rw [List.length_map,lXX,Nat.mul_one])
     have lSK:=LX.out k
     obtain⟨X,hX⟩:∃X,X=xorL (b.drop (64*k)) (S k):=⟨_,rfl⟩
     rw [←hX]at XR EKK LXX LXM
     obtain⟨SK,hSK⟩:=exq (S k)
     rw [←hSK]at XR BLL lSK
     have hfit:(o+m)*(1+1)≤140737488355328:=by
       have h1:=hso.1
       rw [List.length_map,FL.out,Nat.mul_one]at h1
       omega
     have HFIT:=hid hfit
     obtain⟨D0,hD0⟩:=exq (b.drop (64*k))
     rw [←hD0]at XR RDN hrd1 hrd0 EDD
     have e0:((L:Int)==0)=false:=by rw [beq_eq_false_iff_ne];omega
     have e1:¬(L:Int)=0:=by omega
     have lI1:=Nat.le_of_eq hi1
     have lI2:=Nat.le_of_eq hi1.symm
     have lK1:=Nat.le_of_eq lSK
     have lK2:=Nat.le_of_eq lSK.symm
     subst hiv
     clear hso hi2 hLe hrd lD lXX hX hSK hD0 hfit hL hmL
     go_wp2_with (first|(go_at_call 11;(with_reducible refine(putlong_any' _ _).mono ?_);rintro e_ w ⟨rfl,hx_⟩;replace hm:=hm.ext hx_;clear hx_)|((with_reducible show qSt);refine zE hm ?_;clear hm;intro w hm)|(((with_reducible show qAl);refine zG hm ?_);clear hm;(first|(have hx_:=g1;clear hx_;(first|(have hx_:=g2;clear hx_;(first|(have hx_:=g3;clear hx_;(first|(have hx_:=g4;clear hx_;(first|(have hx_:=g5;clear hx_;intro gx_)|intro g5))|intro g4))|intro g3))|intro g2))|intro g1);intro w hm))
     refine rgE 2 65 ?_
     simp only [zTa]
     repeat (first
         | (apply walk_is rfl rfl rfl
            · (intro wx hwx;go_simp;(try go_bits);first|exact gives_same|exact gives_skip)
            · (simp only [zPu];rfl))
         | (apply walk_not rfl rfl rfl
            · (simp only [zPu];rfl)))
     intro wz hwz
     simp only [zZi]
     repeat (first|rw [fin_is]|(rw [fin_cons];intro _ _))
     rw [fin_nil]
     try (replace hm:=hm.ext hwz)
     simp only [zPu]
     ((with_reducible show wpList _ _ _ (Oper.mk _ (Op.call _) _ _ _ _::_) _ _);refine wpl_cp8 hm rfl rfl rfl rfl Tryz.underlying22 (by kernel_rfl) (by repeat (first|exact Swap.hd|assumption|apply Swap.tl|apply Swap.app)) (hm.rdB (l:=putL (BitVec.ofNat 64 k) 8) .hd) (putL_length _ _).symm (rfl) (by omega) ?_;clear hm;intro w hm)
     replace hm:=hm.drop
     obtain⟨I1,I2,_⟩:=BLL.out w
     have BM:=hid fun wx=>(BLL.out wx).2.2
     rw [show(putL (BitVec.ofNat 64 k) 8).take 8=putL (BitVec.ofNat 64 k) 8 from List.take_of_length_le (by rw [putL_length];omega)]at hm
     generalize over IN 0 (putL (BitVec.ofNat 64 k) 8)=IN2 at*
     have lJ1:=Nat.le_of_eq I1
     have lJ2:=Nat.le_of_eq I1.symm
     have HI2:=hid I2
     have HI1:=hid I1
     clear I2 BLL
     go_wp2_with (first|(go_at_call 80;(with_reducible refine(BM.out _).mono ?_);rintro e_ w ⟨rfl,hx_⟩;replace hm:=hm.ext hx_;clear hx_)|((with_reducible show qLd);refine zB hm ?_)|((with_reducible show qSt);refine zE hm ?_;clear hm;intro w hm)|(((with_reducible show qAl);refine zG hm ?_);clear hm;(first|(have hx_:=g1;clear hx_;(first|(have hx_:=g2;clear hx_;(first|(have hx_:=g3;clear hx_;(first|(have hx_:=g4;clear hx_;(first|(have hx_:=g5;clear hx_;intro gx_)|intro g5))|intro g4))|intro g3))|intro g2))|intro g1);intro w hm))
     refine(XR.out _ _ _ (hrd1.out _ hm.x) (hm.rdB (l:=SK) .hd)).mono ?_
     rintro e_ w ⟨x,rfl,⟨px,cx,rfl,hcx,hbx⟩,hx_⟩
     replace hm:=hm.ext hx_
     have HBX:=hid hbx
     clear hx_ hbx
     rw [LXX.out]at hcx⊢
     go_wp2_with (first|((with_reducible show wpList _ _ _ (Oper.mk _ (Op.call _) _ _ _ _::_) _ _);refine wplO_app (M:=M) (R:=_) (ds:=X.map v8) (hm.perm (List.perm_middle.symm)) HSO.out rfl rfl rfl rfl Tryz.underlying22 LXM.out (cells_b HBX.out) (one_map _) HFIT.out ?_;clear hm;intro v1 w M1 hm hs1;obtain⟨p_v1,c_v1,rfl⟩:=hs1.form;replace hm:=hm.perm (List.perm_middle))|((with_reducible apply wq_slL Tryz.underlying22);infer_instance;exact rfl;exact rfl;exact rfl;exact hm1;exact rfl))
     go_step3
     refine⟨rfl,⟨_,_,_,_,_,_,_,_,_,_,_,_,_,_,_,_,_,_,_,_,_,_,_,_,_,_,_,_,_,_,_,_,_,_,_,_,_,_,_,_,_,_,_,_,_,_,_,_,_,_,_,_,_,_,_,_,_,_,_,_,_,_,_,_,_,rfl,⟨(show SlO M1 5 1 _ (o+m) ((F (k+1)).map v8)from by rw [EKK.out,List.map_append];exact hs1),hm.drop,HI1.out,HI2.out,HNK.out,(show L-m=BL0-64*(k+1)from by rw [HML.out,HL.out];omega),(by have:=HLE.out;omega),(show BitVec.ofNat 64 k+1#64=BitVec.ofNat 64 (k+1)from by apply BitVec.eq_of_toNat_eq;simp),fun h=>(show RdB w0 (slP q e m) (b.drop (64*(k+1)))from by have h6:m=64:=(by have:=HML.out;omega);rw [h6,←EDD.out];exact RDN.out w0 hrd0.out 64)⟩⟩, ?_⟩
     simp [slen]
     have:=HML.out
     omega
 · intro hp
   go_wp2_with fail
   refine pregion 11 (Marks.of (OneV w0 [⟨g2,127,nonce.map v8⟩,⟨g1,121,key.map v8⟩] 121 ((zer 32).map v8) (O.map v8)) OneV.ext) [9,10] 65 (by kernel_rfl) (by kernel_rfl) rfl (OneV.start (hm.ext (drew_ext _))) ?_
   simp only [zTa]
   repeat (first
       |(apply pwalk_is rfl rfl rfl rfl;(intro vs_ wx hJ_;have hm:=OneV.low hJ_;(with_reducible apply gq_ldN hm);infer_instance;exact rfl;(focus ((repeat (first|exact .hd|assumption|apply Has.tl|apply Has.app));done));(exact EN.out);(exact(by rw [List.length_map];exact EN2.out)));(simp only [zPu];rfl))
       | (apply pwalk_mark (T:=[]) 0 [] rfl rfl rfl (by kernel_rfl) rfl
          · (intro vs_ wx hJ_ hn_ hD_;simp only [pwithS];obtain⟨hm,hK_⟩:=OneV.na hJ_ hn_;refine⟨rfl, ?_⟩;refine zG hm ?_;clear hm;intro g_ w_ hm;exact mark_end rfl (hK_ g_ _ hm)))
       | (apply pwalk_mark (T:=[(10,PMk 0)]) 1 [] rfl rfl rfl (by kernel_rfl) rfl
          · (intro vs_ wx hJ_ hn_ hD_;simp only [pwithS];intro x_ hx_;obtain⟨g_,rfl,hm,hK_⟩:=OneV.sa hJ_ hn_ hx_;refine⟨rfl, ?_⟩;(with_reducible apply wq_stW hm);exact rfl;infer_instance;exact rfl;exact rfl;(exact .hd);(focus (rw [List.length_map];exact lO));(focus (simp;done));(exact(one_map _));clear hm;intro w_ hm;exact mark_end rfl (fun u_=>hK_ u_ _ hm)))
       | (apply pwalk_is rfl rfl rfl rfl
          · (intro vs_ wx hJ_;have hm:=OneV.low hJ_;first|((with_reducible show qGl);first|(exact zJ hm)|(exact zK hm)|(exact zL hm))|(go_simp;(try go_bits);first|exact gives_same|exact gives_skip|with_reducible exact gives_call (SH.out wx)))
          · (simp only [zPu];rfl)))
   intro vs_ wz hJ_ hl_ hall_
   simp only [zZi]
   repeat rw [pfin_is]
   rw [pfin_cons];intro x10 hx10
   repeat rw [pfin_is]
   rw [pfin_cons];intro y10 hy10
   repeat rw [pfin_is]
   rw [pfin_nil]
   simp only [zPu]
   clear hm
   obtain⟨g3,rfl,hm⟩:=OneV.fin hJ_ hx10 (fun i hi=>hall_ i hi)
   clear hJ_ hl_ hall_ hx10 hy10 y10
   go_wp2_with (first|(((with_reducible show qAl);refine zG hm ?_);clear hm;(first|(have hx_:=g1;clear hx_;(first|(have hx_:=g2;clear hx_;(first|(have hx_:=g3;clear hx_;(first|(have hx_:=g4;clear hx_;(first|(have hx_:=g5;clear hx_;intro gx_)|intro g5))|intro g4))|intro g3))|intro g2))|intro g1);intro w hm))
   refine rgE 2 65 ?_
   simp only [zTa]
   repeat (first
       | (apply walk_is rfl rfl rfl
          · (intro wx hwx;go_simp;(try go_bits);first|exact gives_same|exact gives_skip)
          · (simp only [zPu];rfl))
       | (apply walk_not rfl rfl rfl
          · (simp only [zPu];rfl)))
   intro wz hwz
   simp only [zZi]
   repeat (first|rw [fin_is]|(rw [fin_cons];intro _ _))
   rw [fin_nil]
   try (replace hm:=hm.ext hwz)
   simp only [zPu]
   ((with_reducible show wpList _ _ _ (Oper.mk _ (Op.call _) _ _ _ _::_) _ _);refine wpl_cp8 hm rfl rfl rfl rfl Tryz.underlying22 (by kernel_rfl) (by repeat (first|exact Swap.hd|assumption|apply Swap.tl|apply Swap.app)) (hm.rdB_at (g:=g2) (k:=16) (l:=nonce) (by repeat (first|exact Has.hd|assumption|apply Has.tl|apply Has.app))) (by rw [List.length_drop,HN.out]) (rfl) (by rw [zer_length];omega) ?_;clear hm;intro w hm)
   obtain⟨HI1,HI2⟩:=HIN.out
   generalize over (zer 16) 8 ((nonce.drop 16).take 8)=IN at*
   go_wp2_with (first|((with_reducible apply wq_mkR 0 BL0 hm);exact rfl;exact rfl;exact rfl;exact rfl;(focus omega);(focus omega);(focus omega);clear hm;intro g5 w hm))
   rw [show(Value.int IntKind.u64 0)=v64 0#64 from rfl]
   go_step3
   rename_i hK
   exact hK _ _ (hp _ _ ⟨_,_,_,_,_,_,_,_,_,_,_,_,_,_,_,_,_,_,_,_,_,_,_,_,_,_,_,_,_,_,_,_,_,_,_,_,_,_,_,_,_,_,_,_,_,_,_,_,_,_,_,_,_,_,_,_,_,_,_,_,_,_,_,_,_,rfl,⟨by rw [E0.out];exact SlO.room _ _ 1 BL0 ((zeros BL0).map v8) (by simp) (by unfold maxLen;omega),hm,HI1,HI2,Nat.zero_le _,rfl,HC.out,rfl,fun _=>HR.out⟩⟩)
theorem ccrypt12(key nonce b:List Byte)(hk:key.length=32)(hn:nonce.length=24)(hb:b.length≤70368744177000)(p:Option Addr)(c:Nat)(w0:World)(hr:RdB w0 p b)(hc:b.length≤c):
   Calls Tryz.prog 64 #[A8 key,A8 nonce, .int .i64 12, .slice p b.length c] w0 fun e w'=>∃q d,e= .returned (.tuple #[.slice q b.length d, .int .i64 0])∧b.length≤d∧RdB w' q (xchL key nonce b)∧Ext w0 w':=by
 refine Calls.mono (ccrypt12o key nonce b hk hn hb p c w0 hr hc) ?_
 rintro e w ⟨v,M,R,rfl,hm,hs⟩
 obtain⟨q,d,hv,hnd,_⟩:=hs.cells hm
 subst hv
 exact⟨q,d,rfl,hnd,slo_rdZ hs hm,hm.x⟩
def wdB(key:List Byte)(i:Nat):List Byte:=putL ((wrd key (4*i)).setWidth 64) 4
theorem wdB_length(key:List Byte)(i:Nat):(wdB key i).length=4:=putL_length _ _
def rotW(w:List Byte):List Byte:=[nth w 1,nth w 2,nth w 3,nth w 0]
def exB(n:Nat)(lg:Bool)(o:Nat)(w:List Byte)(pw:Byte):List Byte:=
 if o%n=0 then setN (boxW (rotW w)) 0 (nth (boxW (rotW w)) 0^^^pw)else if lg=true∧o%n=4 then boxW w else w
def exP(n o:Nat)(pw:Byte):Byte:=if o%n=0 then dbl pw else pw
theorem exB_length(n:Nat)(lg:Bool)(o:Nat)(w:List Byte)(pw:Byte)(h:w.length=4):(exB n lg o w pw).length=4:=by
 unfold exB
 split
 · rw [setN_length,boxW_length]
 · split
   · exact boxW_length _
   · exact h
def exS(n:Nat)(lg:Bool)(key:List Byte):Nat→List (List Byte)×Byte
 |0=>((List.range n).map (wdB key),1#8)
 |j+1=>((exS n lg key j).1++[plus4 ((exS n lg key j).1.getD j []) (exB n lg (n+j) ((exS n lg key j).1.getD (n+j-1) []) (exS n lg key j).2)],exP n (n+j) (exS n lg key j).2)
theorem exS_length(n:Nat)(lg:Bool)(key:List Byte)(j:Nat):(exS n lg key j).1.length=n+j:=by
 induction j with
 |zero=>simp [exS]
 |succ j ih=>rw [exS,List.length_append,ih];rfl
theorem exS_each(n:Nat)(lg:Bool)(key:List Byte)(j:Nat):∀w∈(exS n lg key j).1,w.length=4:=by
 induction j with
 | zero=>
   intro w hw
   obtain⟨i,_,rfl⟩:=List.mem_map.1 hw
   exact wdB_length _ _
 | succ j ih=>
   intro w hw
   rcases List.mem_append.1 hw with h|h
   · exact ih w h
   · rw [List.mem_singleton.1 h];exact plus4_length _ _
def rkL(ws:List (List Byte))(i:Nat):List Byte:=((ws.drop (4*i)).take 4).flatten
theorem rkL_length(ws:List (List Byte))(h:∀w∈ws,w.length=4)(i:Nat)(hi:4*i+4≤ws.length):(rkL ws i).length=16:=by
 rw [rkL,flatten_length 4 _ (fun w hw=>h w (List.mem_of_mem_drop (List.mem_of_mem_take hw))),List.length_take,List.length_drop]
 omega
def rksL(ws:List (List Byte))(m:Nat):List (List Byte):=(List.range m).map (rkL ws)
theorem rksL_length(ws:List (List Byte))(m:Nat):(rksL ws m).length=m:=by simp [rksL]
theorem rksL_succ(ws:List (List Byte))(m:Nat):rksL ws (m+1)=rksL ws m++[rkL ws m]:=by simp [rksL,List.range_succ]
theorem rksL_each(ws:List (List Byte))(h:∀w∈ws,w.length=4)(m:Nat)(hm:4*m≤ws.length):∀k∈rksL ws m,k.length=16:=by
 intro k hk
 obtain⟨i,hi,rfl⟩:=List.mem_map.1 hk
 rw [List.mem_range]at hi
 exact rkL_length ws h i (by omega)
theorem three_of(ks:List (List Byte))(m:Nat)(h:ks.length=m+2):ks=ks.getD 0 []::((ks.drop 1).take m++[ks.getD (m+1) []]):=by
 refine List.ext_getElem? fun i=> ?_
 rcases i with _|i
 · rw [List.getElem?_cons_zero,List.getElem?_eq_getElem (by omega)];simp [List.getD_eq_getElem?_getD,List.getElem?_eq_getElem (show 0<ks.length by omega)]
 · rw [List.getElem?_cons_succ,List.getElem?_append,List.length_take,List.length_drop]
   split
   · rename_i hi
     rw [List.getElem?_take,if_pos (by omega),List.getElem?_drop,Nat.add_comm 1 i]
   · rename_i hi
     by_cases e:i=m
     · subst e
       rw [show i-min i (ks.length-1)=0 by omega]
       simp [List.getD_eq_getElem?_getD,List.getElem?_eq_getElem (show i+1<ks.length by omega)]
     · rw [List.getElem?_eq_none (by omega),List.getElem?_eq_none (by simp;omega)]
def aesK(n:Nat)(lg:Bool)(key:List Byte):List (List Byte):=rksL (exS n lg key (3*n+28)).1 (n+7)
def aesK0(n:Nat)(lg:Bool)(key:List Byte):List Byte:=(aesK n lg key).getD 0 []
def aesKs(n:Nat)(lg:Bool)(key:List Byte):List (List Byte):=((aesK n lg key).drop 1).take (n+5)
def aesKl(n:Nat)(lg:Bool)(key:List Byte):List Byte:=(aesK n lg key).getD (n+6) []
theorem aesK_three(n:Nat)(lg:Bool)(key:List Byte):aesK n lg key=aesK0 n lg key::(aesKs n lg key++[aesKl n lg key]):=three_of _ (n+5) (rksL_length _ _)
theorem aesKs_length(n:Nat)(lg:Bool)(key:List Byte):(aesKs n lg key).length=n+5:=by
 rw [aesKs,List.length_take,List.length_drop,aesK,rksL_length];omega
end Go.Proofs.YtneacgpmjlocjaaGreatDoor
