/-
  Texts of the program, walked, and plain ones. Conditions: those written in each theorem.
-/
import Derived.Test.YtneacgpmjlocjaaGreatDoorZTopText0
import Derived.Test.YtneacgpmjlocjaaGreatDoorZTopText12
import Derived.Test.YtneacgpmjlocjaaGreatDoorZTopText15
import Derived.Test.YtneacgpmjlocjaaGreatDoorZTopText14
import Derived.Test.YtneacgpmjlocjaaGreatDoorZTopText11
import Derived.Test.YtneacgpmjlocjaaGreatDoorZTopText4
import Derived.Test.YtneacgpmjlocjaaGreatDoorZTopText3
import Derived.Test.YtneacgpmjlocjaaGreatDoorZTopText10
import Derived.Test.YtneacgpmjlocjaaGreatDoorZTopText5
set_option linter.unusedSimpArgs false
set_option linter.unusedVariables false
set_option maxHeartbeats 16000000
open Go.Lib (hid)
namespace Go.Proofs.YtneacgpmjlocjaaGreatDoor
open Go Go.RowKit
set_option maxRecDepth 100000
theorem anum_enc(g:Nat)(k0 kl:List Byte)(ks:List (List Byte))(lo hi:BitVec 64)(w0:World)(h:AesR w0 g k0 ks kl):Gives Tryz.prog 180 #[.func (.func 67) #[.pointer (some ⟨g,0,none⟩)] #[],WV lo hi] w0 (WV (num (aesE k0 ks kl (putL lo 8++putL hi 8)) 0 8) (num (aesE k0 ks kl (putL lo 8++putL hi 8)) 8 8)):=by
 unfold Gives
 have hm:=Own.start w0
 have BB:=hid fun w=>bytes_any lo hi w
 have lP:(putL lo 8++putL hi 8).length=16:=by rw [List.length_append,putL_length,putL_length]
 have EN:=hid fun w (hx:Ext w0 w)=>encrypt_any g k0 kl ks (putL lo 8++putL hi 8) lP w (h.ext hx)
 have lE:=aesE_length k0 ks kl (putL lo 8++putL hi 8)
 obtain⟨Pb,hPb⟩:=exq (putL lo 8++putL hi 8)
 rw [←hPb]at BB lP EN lE⊢
 obtain⟨E,hE⟩:=exq (aesE k0 ks kl Pb)
 rw [←hE]at EN lE⊢
 have LD:=hid fun (w:World)(q:Option Addr)(d:Nat)(h:RdB w q E)=>(show Gives Tryz.prog 183 #[.slice q 16 d] w (WV (num E 0 8) (num E 8 8))from by
   have:=load_any E q d w h (by omega);rwa [lE]at this)
 have h1:=Nat.le_of_eq lE
 have h2:=Nat.le_of_eq lE.symm
 clear h hPb hE lP
 go_enter Tryz.func180,Tryz.ntmps180
 go_wp2_with (first|(go_at_call 186;(with_reducible refine(BB.out _).mono ?_);rintro e_ w ⟨rfl,hx_⟩;replace hm:=hm.ext hx_;clear hx_)|(go_at_call 67;(with_reducible refine(EN.out _ hm.x).mono ?_);rintro e_ w ⟨rfl,hx_⟩;replace hm:=hm.ext hx_;clear hx_)|(go_at_call 183;(with_reducible refine(LD.out _ _ _ (hm.rdB (l:=E) (by repeat (first|exact Has.hd|assumption|apply Has.tl)))).mono ?_);rintro e_ w ⟨rfl,hx_⟩;replace hm:=hm.ext hx_;clear hx_)|((with_reducible show qLd);first|(refine zB hm ?_))|((((with_reducible show qSt);first|(refine zE hm ?_)));clear hm;intro w hm)|((first|((with_reducible show qAl);first|(refine zG hm ?_))|((with_reducible show qBx);first|(refine zH hm ?_)));clear hm;intro gx_;intro w hm))
 refine rtO hm rfl rfl ⟨rfl,hm.x⟩
def TupS(n:Nat)(X:List Byte):Slot:=fun v w=>∃p c,v= .tuple #[.slice p n c, .int .i64 0]∧n≤c∧RdB w p X
theorem TupS.stable(n:Nat)(X:List Byte):Stable (TupS n X):=fun _ _ _ ⟨p,c,h1,h2,h3⟩ hx=>⟨p,c,h1,h2,h3.ext hx⟩
def SlcS(n:Nat)(X:List Byte):Slot:=fun v w=>∃p c,v= .slice p n c∧n≤c∧RdB w p X
theorem SlcS.stable(n:Nat)(X:List Byte):Stable (SlcS n X):=fun _ _ _ ⟨p,c,h1,h2,h3⟩ hx=>⟨p,c,h1,h2,h3.ext hx⟩
def adiC(key:List Byte)(gk gs:Option Addr):List Value:=key.map v8++[.pointer gk, .pointer gs]
theorem adiC_key(key:List Byte)(gk gs:Option Addr)(h:key.length=32):((adiC key gk gs).drop 0).take 32=key.map v8:=by
 rw [dZe,adiC];exact List.take_left' (by simp [h])
theorem adiC_k(key:List Byte)(gk gs:Option Addr)(h:key.length=32):(adiC key gk gs)[32]? =some (.pointer gk):=by
 rw [adiC,List.getElem?_append_right (by simp [h])];simp [h]
theorem adiC_s(key:List Byte)(gk gs:Option Addr)(h:key.length=32):(adiC key gk gs)[33]? =some (.pointer gs):=by
 rw [adiC,List.getElem?_append_right (by simp [h])];simp [h]
theorem adiC_setk(key:List Byte)(gk gs x:Option Addr)(h:key.length=32):(adiC key gk gs).set 32 (.pointer x)=adiC key x gs:=by
 rw [adiC,List.set_append_right _ _ (by simp [h])];simp [h,adiC]
theorem adiC_sets(key:List Byte)(gk gs x:Option Addr)(h:key.length=32):(adiC key gk gs).set 33 (.pointer x)=adiC key gk x:=by
 rw [adiC,List.set_append_right _ _ (by simp [h])];simp [h,adiC]
theorem adiC_length(key:List Byte)(gk gs:Option Addr)(h:key.length=32):(adiC key gk gs).length=34:=by simp [adiC,h]
def nonB(mb:List Byte):List Byte:=setN (over (zer 24) 0 (mb.take 24)) 16 1#8
theorem nonB_length(mb:List Byte)(h:mb.length=16):(nonB mb).length=24:=by
 rw [nonB,setN_length,over_length _ _ _ (by rw [List.length_take,zer_length];omega),zer_length]
def astL(key b:List Byte)(lo hi:BitVec 64):List Byte:=xchL key (nonB (putL lo 8++putL hi 8)) b
theorem astL_length(key b:List Byte)(lo hi:BitVec 64):(astL key b lo hi).length=b.length:=xchL_length _ _ _
theorem astream_any(g:Nat)(key b:List Byte)(gk gs:Option Addr)(lo hi:BitVec 64)(hk:key.length=32)(hb:b.length≤1000000)(q:Option Addr)(d:Nat)(hd:b.length≤d)(w0:World)(h:Row w0 g 125 (adiC key gk gs))(hr:RdB w0 q b):
   Calls Tryz.prog 178 #[.pointer (some ⟨g,0,none⟩),WV lo hi, .slice q b.length d] w0 fun e w'=>∃p c,e= .returned (.slice p b.length c)∧b.length≤c∧RdB w' p (astL key b lo hi)∧Ext w0 w':=by
 have hm:=Own.start w0
 have HR:=hid fun w (hx:Ext w0 w)=>row_ext h hx
 have EK:=hid (adiC_key key gk gs hk)
 have BB:=hid fun w=>bytes_any lo hi w
 have lP:(putL lo 8++putL hi 8).length=16:=by rw [List.length_append,putL_length,putL_length]
 have CC:=hid fun w (hx:Ext w0 w)=>ccrypt12 key (nonB (putL lo 8++putL hi 8)) b hk (nonB_length _ lP) (by omega) q d w (hr.ext hx) hd
 rw [show xchL key (nonB (putL lo 8++putL hi 8)) b=astL key b lo hi from rfl]at CC
 obtain⟨X,hX⟩:=exq (astL key b lo hi)
 rw [←hX]at CC⊢
 obtain⟨Pb,hPb⟩:=exq (putL lo 8++putL hi 8)
 rw [←hPb]at BB lP CC
 have EO:Hid (nonB Pb=setN (over (zer 24) 0 (Pb.take 24)) 16 1#8):=hid rfl
 have lO:(over (zer 24) 0 (Pb.take 24)).length=24:=by rw [over_length _ _ _ (by rw [List.length_take,zer_length];omega),zer_length]
 have LP:=hid lP
 rw [EO.out]at CC
 obtain⟨O,hO⟩:=exq (over (zer 24) 0 (Pb.take 24))
 have HO:=hid hO
 rw [←hO]at CC lO
 have HK:=hid hk
 have h1:=Nat.le_of_eq lP
 have h2:=Nat.le_of_eq lP.symm
 have h3:=Nat.le_of_eq lO
 have h4:=Nat.le_of_eq lO.symm
 obtain⟨BL,hBL⟩:=exq (b.length)
 rw [←hBL]at CC⊢
 clear h hr hX hPb hO hk hb hd lP lO hBL EO
 go_enter Tryz.func178,Tryz.ntmps178
 go_wp2_with (first|(go_at_call 186;(with_reducible refine(BB.out _).mono ?_);rintro e_ w ⟨rfl,hx_⟩;replace hm:=hm.ext hx_;clear hx_)|((with_reducible show qLd);first|(refine zB hm ?_))|((((with_reducible show qSt);first|(refine zE hm ?_)));clear hm;intro w hm)|((first|((with_reducible show qAl);first|(refine zG hm ?_))|((with_reducible show qBx);first|(refine zH hm ?_)));clear hm;(first|(have hx_:=g1;clear hx_;(first|(have hx_:=g2;clear hx_;(first|(have hx_:=g3;clear hx_;intro gx_)|intro g3))|intro g2))|intro g1);intro w hm))
 refine rgE 2 28 ?_
 simp only [tSC,tZe,dSC,dZe,mCo,mNi]
 repeat (first
     | (apply walk_is rfl rfl rfl
        · (intro wx hwx;go_simp;(try go_bits);first|exact gives_same|exact gives_skip)
        · (simp only [Act.put,sIB,sCS,sCZ];rfl))
     | (apply walk_not rfl rfl rfl
        · (simp only [Act.put,sIB,sCS,sCZ];rfl)))
 intro wz hwz
 simp only [zCC,zNR]
 repeat (first|rw [fin_is]|(rw [fin_cons];intro _ _))
 rw [fin_nil]
 try (replace hm:=hm.ext hwz)
 simp only [Act.put,sIB,sCS,sCZ]
 ((with_reducible show wpList _ _ _ (Oper.mk _ (Op.call _) _ _ _ _::_) _ _);refine wpl_cp8 hm rfl rfl rfl rfl Tryz.underlying22 (by kernel_rfl) (by repeat (first|exact Swap.hd|assumption|apply Swap.tl)) (hm.rdB (g:=g3) (l:=Pb) (by repeat (first|exact Has.hd|assumption|apply Has.tl))) LP.out.symm (HO.out.symm) (by rw [zer_length];omega) ?_;clear hm;intro w hm)
 go_wp2_with (first|((((with_reducible show qSt);first|((with_reducible apply wq_st8i hm);exact rfl;infer_instance;exact rfl;exact rfl;(focus (repeat first|exact .hd|assumption|apply Swap.tl);done);(focus omega);(focus (first|omega|(simp;omega)|(refine ltB ?_;first|omega|(simp;done)|(simp;omega)))))));clear hm;intro w hm))
 have hx0:=hm.x
 have c1:=fun wx (hwx:Ext w wx)=>(show GivesR Tryz.prog 64 #[A8 key,A8 (setN O 16 1#8), .int .i64 12, .slice q BL d] wx (TupS BL X)from by
   refine Calls.mono (CC.out wx (hx0.trans hwx)) ?_
   rintro e w' ⟨p,c,rfl,h1,h2,h3⟩
   exact⟨_,rfl,⟨p,c,rfl,h1,h2⟩,h3⟩)
 have R1:=hid fun wx (h:Ext w wx)=>HR.out wx (hx0.trans h)
 refine region_new 11 (fun w'=>Ext _ w') 28 (by kernel_rfl) (by kernel_rfl) rfl (fun _ _ h k=>h.trans k) (drew_ext _) ?_
 simp only [tSC,tZe,dSC,dZe,mCo,mNi]
 repeat (first
     |(apply walk_is rfl rfl rfl;(intro wx hwx;(with_reducible apply gq_rowN (R1.out wx hwx));infer_instance;exact rfl;exact EK.out;exact(by rw [List.length_map];exact HK.out));(simp only [Act.put,sIB,sCS,sCZ];rfl))
     | (apply walk_some (TupS BL X) 24 (TupS.stable _ _) rfl rfl rfl rfl
        · (intro wx hwx;go_simp;with_reducible exact gives_callR (c1 wx hwx)))
     | (apply walk_from_some (T:=[(24,TupS BL X)]) (TupS BL X) 17 (TupS.stable _ _) rfl rfl rfl
        · (intro wx hwx;simp only [withS];(rintro x_ ⟨p_,c_,rfl,h1_,h2_⟩);refine⟨rfl, ?_⟩;go_simp;exact gives_val (Ext.refl _) ⟨p_,c_,rfl,h1_,h2_⟩))
     | (apply walk_from_some (T:=[(17,TupS BL X)]) (SlcS BL X) 25 (SlcS.stable _ _) rfl rfl rfl
        · (intro wx hwx;simp only [withS];(rintro x_ ⟨p_,c_,rfl,h1_,h2_⟩);refine⟨rfl, ?_⟩;go_simp;exact gives_val (Ext.refl _) ⟨p_,c_,rfl,h1_,h2_⟩))
     | (apply walk_from_some (T:=[(25,SlcS BL X)]) (SlcS BL X) 9 (SlcS.stable _ _) rfl rfl rfl
        · (intro wx hwx;simp only [withS];(rintro x_ ⟨p_,c_,rfl,h1_,h2_⟩);refine⟨rfl, ?_⟩;go_simp;exact gives_val (Ext.refl _) ⟨p_,c_,rfl,h1_,h2_⟩))
     | (apply walk_from (T:=[(17,TupS BL X)]) rfl rfl
        · (intro wx hwx;simp only [withS];(rintro x_ ⟨p_,c_,rfl,h1_,h2_⟩);refine⟨rfl, ?_⟩;go_simp;exact gives_same)
        · (simp only [Act.put,sIB,sCS,sCZ];rfl))
     | (apply walk_is rfl rfl rfl
        · (intro wx hwx;first|((with_reducible show qGl);first|(exact zK (hm.ext hwx)))|(go_simp;(try go_bits);first|exact gives_same|exact gives_skip))
        · (simp only [Act.put,sIB,sCS,sCZ];rfl))
     | (apply walk_not rfl rfl rfl
        · (simp only [Act.put,sIB,sCS,sCZ];rfl)))
 intro wz hwz
 simp only [zCC,zNR]
 repeat rw [fin_is]
 rw [fin_cons];intro x24 hx24
 repeat rw [fin_is]
 rw [fin_cons];intro x17 hx17
 repeat rw [fin_is]
 rw [fin_cons];intro x25 hx25
 repeat rw [fin_is]
 rw [fin_cons];intro x9 hx9
 repeat rw [fin_is]
 rw [fin_nil];intro hap
 simp only [Act.put,sIB,sCS,sCZ]at hap⊢
 obtain⟨p25,c25,rfl,hc25,hr25⟩:=hx9
 clear hx24 hx17 hx25 hap
 have hx2:=hx0.trans hwz
 go_wp2_with fail
 go_ret
 exact⟨p25,c25,rfl,hc25,hr25,hx2⟩
def AdiR(w:World)(g:Nat)(key k0:List Byte)(ks:List (List Byte))(kl tw ms:List Byte)(W:List (BitVec 32)):Prop:=
 ∃gk gs,Row w g 125 (adiC key (some ⟨gk,0,none⟩) (some ⟨gs,0,none⟩))∧key.length=32∧AesR w gk k0 ks kl∧AdR w gs tw ms W
theorem AdiR.ext {w w':World}{g:Nat}{key k0 kl tw ms:List Byte}{ks:List (List Byte)}{W:List (BitVec 32)}(h:AdiR w g key k0 ks kl tw ms W)(hx:Ext w w'):AdiR w' g key k0 ks kl tw ms W:=by
 obtain⟨gk,gs,h1,h2,h3,h4⟩:=h
 exact⟨gk,gs,row_ext h1 hx,h2,h3.ext hx,h4.ext hx⟩
def NewT(B n:Nat)(X:List Byte):Slot:=fun v w=>∃g o d cur,v= .tuple #[.slice (some ⟨g,o,none⟩) n d, .int .i64 0]∧B≤g∧Row w g 5 cur∧SlO [⟨g,5,cur⟩] 5 1 (.slice (some ⟨g,o,none⟩) n d) n (X.map v8)
theorem NewT.stable(B n:Nat)(X:List Byte):Stable (NewT B n X):=fun _ _ _ ⟨g,o,d,cur,h1,h2,h3,h4⟩ hx=>⟨g,o,d,cur,h1,h2,row_ext h3 hx,h4⟩
def NewL(B n:Nat)(X:List Byte):Slot:=fun v w=>∃g o d cur,v= .slice (some ⟨g,o,none⟩) n d∧B≤g∧Row w g 5 cur∧SlO [⟨g,5,cur⟩] 5 1 (.slice (some ⟨g,o,none⟩) n d) n (X.map v8)
theorem NewL.stable(B n:Nat)(X:List Byte):Stable (NewL B n X):=fun _ _ _ ⟨g,o,d,cur,h1,h2,h3,h4⟩ hx=>⟨g,o,d,cur,h1,h2,row_ext h3 hx,h4⟩
theorem newT_of {w0 w:World}{B n:Nat}{X:List Byte}{v:Value}{M R:List Blk}(h0:0<n)(hB:B≤w0.heap.size)(hm:Own w0 w (M++R))(hs:SlO M 5 1 v n (X.map v8)):NewT B n X (.tuple #[v, .int .i64 0]) w:=by
 have hs2:=hs
 rcases hs.2 with ⟨_,h1,_⟩|⟨g,o,cap,cur,rfl,rfl,_⟩
 · omega
 · exact⟨g,o,cap,cur,rfl,Nat.le_trans hB (show w0.heap.size≤(⟨g,5,cur⟩:Blk).g from hm.base .hd),hm.row .hd,hs2⟩
theorem gq_mkZ {a:Act}{w:World}{dst:Option Tmp}{ty:TypeId}{pos:String}{aft:Array Edge}{gd:Option (Nat×Bool)}{x y:Operand}(n:Nat)(hn:n≤281474976710656)(hx:a.eval x= .int .i64 (n:Int))(hy:a.eval y= .int .i64 (n:Int)):gives Tryz.prog w (BytesS (zeros n)) ((execOp a.eval (Oper.mk dst (.makeSlice 22 x y) ty pos aft gd)).run Tryz.prog w):=by
 obtain⟨i,hi,hz,hs,hb⟩:=info_byte
 have h:=run_make_bytes (P:=Tryz.prog) (w:=w) Tryz.underlying22 hi hz hs hb n hn
 unfold execOp
 simp only [hx,hy,Sem.run_bind,h,Result.andThen_ok,Sem.run_pure]
 have hl:=zeros_length n
 exact gives_val (Ext.alloc (Ext.refl _) _) ⟨_,_,by rw [hl],by rw [hl];exact Nat.le_refl _,RdB.of_row (row_new w 5 ((zeros n).map v8))⟩
theorem gq_bld1 {P:Program}{dst:Option Tmp}{ty:TypeId}{pos:String}{aft:Array Edge}{gd:Option (Nat×Bool)}{a:Act}{w:World}{T:TypeId}{x:Operand}{u v:Value}{i:Nat}(hb:∀w,(Instr.build T #[(i,u)]).run P w= .ok v w)(hx:a.eval x=u):gives P w (Is v) ((execOp a.eval (Oper.mk dst (.build T #[(i,x)]) ty pos aft gd)).run P w):=by
 unfold execOp
 have h:=hb w
 simp [hx,h]
 exact gives_same
def non0:List Byte:=setN (zer 24) 0 1#8
theorem build_non0(w:World):(Instr.build 127 #[(0, .int .u8 1)]).run Tryz.prog w= .ok (A8 non0) w:=by kernel_rfl
theorem len32(b:List Byte)(h:b.length=32):∃a c,b=a++c∧a.length=16∧c.length=16:=⟨b.take 16,b.drop 16,(List.take_append_drop 16 b).symm,by rw [List.length_take];omega,by rw [List.length_drop];omega⟩
theorem build_adi(key:List Byte)(hk:key.length=32)(w:World):(Instr.build 125 #[(0,A8 key)]).run Tryz.prog w= .ok (.agg (adiC key none none).toArray) w:=by
 obtain⟨x,y,rfl,hx,hy⟩:=len32 key hk
 obtain⟨a0,a1,a2,a3,a4,a5,a6,a7,a8,a9,a10,a11,a12,a13,a14,a15,rfl⟩:=len16 x hx
 obtain⟨b0,b1,b2,b3,b4,b5,b6,b7,b8,b9,b10,b11,b12,b13,b14,b15,rfl⟩:=len16 y hy
 kernel_rfl
theorem arr_at32(a:Addr)(c:Nat)(w:World):(Instr.arrayAt 121 (.slice (some a) 32 c)).run Tryz.prog w= .ok (.pointer (some a)) w:=by kernel_rfl
def adX(key:List Byte):List Byte:=xchL key non0 (zeros 1136)
theorem adX_length(key:List Byte):(adX key).length=1136:=by rw [adX,xchL_length,zeros_length]
abbrev AdiK(w:World)(g:Nat)(key:List Byte):Prop:=AdiR w g key (eK0 ((adX key).take 32)) (eKs ((adX key).take 32)) (eKl ((adX key).take 32)) (blk ((adX key).drop 32)) (blk (((adX key).drop 32).drop 16)) (nhW (((adX key).drop 32).drop 32))
theorem adinew_any(gt gb:Nat)(key:List Byte)(hk:key.length=32)(p:Option Addr)(c:Nat)(hc:32≤c)(w0:World)(hr:RdB w0 p key)(ht:TabR gt gb w0):
   Calls Tryz.prog 45 #[.pointer (some ⟨gt,0,none⟩), .slice p 32 c] w0 fun e w'=>∃g L,e= .returned (.tuple #[.pointer (some ⟨g,0,none⟩), .int .i64 0])∧w0.heap.size≤g∧Own w0 w' L∧Keeps L (TabR gt gb) (fun wx=>AdiK wx g key):=by
 have hm:=Own.start w0
 obtain⟨a,rfl⟩:=Option.isSome_iff_exists.1 (hr.1 (by omega))
 have HR:=hid fun w (hx:Ext w0 w)=>hr.ext hx
 have HK:=hid hk
 have HT:=hid ht
 have BA:=hid (build_adi key hk)
 have BN:=hid build_non0
 have EK:=hid (adiC_key key none none hk)
 have lX:=adX_length key
 have CC:=hid fun (w wx:World)(hx:Ext w wx)(q:Option Addr)(d:Nat)(hd:(zeros 1136).length≤d)(hr:RdB wx q (zeros 1136))=>(show GivesR Tryz.prog 64 #[A8 key,A8 non0, .int .i64 12, .slice q 1136 d] wx (NewT w.heap.size 1136 (adX key))from by
   have h0:=ccrypt12o key non0 (zeros 1136) hk (by rw [non0,setN_length,zer_length]) (by rw [zeros_length];omega) q d wx hr hd
   rw [zeros_length]at h0
   refine Calls.mono h0 ?_
   rintro e w' ⟨v,M,R,rfl,hm1,hs⟩
   exact⟨_,rfl,newT_of (by omega) hx.size hm1 hs,hm1.x⟩)
 have FIN:Hid (∀(g gk gs:Nat)(wx:World),Row wx g 125 (adiC key (some ⟨gk,0,none⟩) (some ⟨gs,0,none⟩))→AesR wx gk (eK0 ((adX key).take 32)) (eKs ((adX key).take 32)) (eKl ((adX key).take 32))→AdR wx gs (blk ((adX key).drop 32)) (blk (((adX key).drop 32).drop 16)) (nhW (((adX key).drop 32).drop 32))→AdiK wx g key):=hid fun g gk gs wx h1 h2 h3=>⟨gk,gs,h1,hk,h2,h3⟩
 have EX:=hid fun (w:World)(hx:Ext w0 w)(q:Option Addr)(d:Nat)(hd:32≤d)(hr:RdB w q (adX key))=>(show Calls Tryz.prog 65 #[.pointer (some ⟨gt,0,none⟩), .slice q 32 d] w fun e w'=>∃g L,e= .returned (.tuple #[.pointer (some ⟨g,0,none⟩), .int .i64 0])∧w.heap.size≤g∧Own w w' L∧Keeps L (TabR gt gb) (fun wx=>AesR wx g (eK0 ((adX key).take 32)) (eKs ((adX key).take 32)) (eKl ((adX key).take 32)))from by
   have l:((adX key).take 32).length=32:=by rw [List.length_take,lX];rfl
   have:=expand_any gt gb ((adX key).take 32) (.inr (.inr l)) q d w (hr.take 32) (by omega) (ht.ext hx)
   rwa [l]at this)
 have AN:=hid fun (w:World)(q:Option Addr)(d:Nat)(hd:1136≤d)(hr:RdB w q (adX key))=>(show Calls Tryz.prog 66 #[.slice (slP q d 32) 1104 (d-32)] w fun e w'=>∃g,e= .returned (.tuple #[.pointer (some ⟨g,0,none⟩), .int .i64 0])∧w.heap.size≤g∧∃L,Own w w' L∧Keeps L (fun _=>True) (fun wx=>AdR wx g (blk ((adX key).drop 32)) (blk (((adX key).drop 32).drop 16)) (nhW (((adX key).drop 32).drop 32)))from
   adnew_any ((adX key).drop 32) (by rw [List.length_drop,lX]) _ (d-32) (by omega) w (hr.slL d 32 (by omega)))
 have h32:(32:Int)≤(c:Int):=by omega
 have ZL:=hid (zeros_length 1136)
 have aa:=arr_at32 a c
 clear hr hk ht hc lX
 go_enter Tryz.func45,Tryz.ntmps45
 go_wp2_with (first|((with_reducible apply wq_rdW (HR.out _ hm.x));exact rfl;infer_instance;exact rfl;exact HK.out)|((with_reducible apply wq_build1 BA.out);exact rfl;exact rfl)|((first|((with_reducible show qBx);first|(refine zH hm ?_)));clear hm;(first|(have hx_:=g1;clear hx_;intro gx_)|intro g1);intro w hm))
 have hmA:=hm
 have c1:=fun wx q d (hwx:Ext w wx) (hd:(zeros 1136).length≤d) (h:RdB wx q (zeros 1136))=>CC.out w wx hwx q d hd h
 refine region_new 11 (fun w'=>Ext _ w') 51 (by kernel_rfl) (by kernel_rfl) rfl (fun _ _ h k=>h.trans k) (drew_ext _) ?_
 simp only [tSC,tZe,dSC,dZe,mCo,mNi]
 repeat (first
     |(apply walk_is rfl rfl rfl;(intro wx hwx;(with_reducible apply gq_ldN (hm.ext hwx));infer_instance;exact rfl;(focus ((repeat (first|exact .hd|assumption|apply Has.tl|apply Has.app));done));(exact EK.out);(exact(by rw [List.length_map];exact HK.out)));(simp only [Act.put,sIB,sCS,sCZ];rfl))
     |(apply walk_is rfl rfl rfl;(intro wx hwx;(with_reducible apply gq_bld1 BN.out);exact rfl);(simp only [Act.put,sIB,sCS,sCZ];rfl))
     |(apply walk_some (BytesS (zeros 1136)) 27 (BytesS.stable _) rfl rfl rfl rfl;(intro wx hwx;exact gq_mkZ 1136 (by omega) rfl rfl))
     | (apply walk_from_some (T:=[(27,BytesS (zeros 1136))]) (NewT w.heap.size 1136 (adX key)) 28 (NewT.stable _ _ _) rfl rfl rfl
        · (intro wx hwx;simp only [withS];(rintro x_ ⟨p_,c_,rfl,h1_,h2_⟩);refine⟨rfl, ?_⟩;go_simp;with_reducible exact gives_callR (c1 wx _ _ hwx h1_ h2_)))
     | (apply walk_from_some (T:=[(28,NewT w.heap.size 1136 (adX key))]) (NewT w.heap.size 1136 (adX key)) 21 (NewT.stable _ _ _) rfl rfl rfl
        · (intro wx hwx;simp only [withS];(rintro x_ ⟨g_,o_,d_,cur_,rfl,h_⟩);refine⟨rfl, ?_⟩;go_simp;exact gives_val (Ext.refl _) ⟨g_,o_,d_,cur_,rfl,h_⟩))
     | (apply walk_from_some (T:=[(21,NewT w.heap.size 1136 (adX key))]) (NewL w.heap.size 1136 (adX key)) 29 (NewL.stable _ _ _) rfl rfl rfl
        · (intro wx hwx;simp only [withS];(rintro x_ ⟨g_,o_,d_,cur_,rfl,h_⟩);refine⟨rfl, ?_⟩;go_simp;exact gives_val (Ext.refl _) ⟨g_,o_,d_,cur_,rfl,h_⟩))
     | (apply walk_from (T:=[(21,NewT w.heap.size 1136 (adX key))]) rfl rfl
        · (intro wx hwx;simp only [withS];(rintro x_ ⟨g_,o_,d_,cur_,rfl,h_⟩);refine⟨rfl, ?_⟩;go_simp;exact gives_same)
        · (simp only [Act.put,sIB,sCS,sCZ];rfl))
     | (apply walk_from_some (T:=[(29,NewL w.heap.size 1136 (adX key))]) (NewL w.heap.size 1136 (adX key)) 7 (NewL.stable _ _ _) rfl rfl rfl
        · (intro wx hwx;simp only [withS];(rintro x_ ⟨g_,o_,d_,cur_,rfl,h_⟩);refine⟨rfl, ?_⟩;go_simp;exact gives_val (Ext.refl _) ⟨g_,o_,d_,cur_,rfl,h_⟩))
     | (apply walk_is rfl rfl rfl
        · (intro wx hwx;go_simp;(try go_bits);first|exact gives_same|exact gives_skip)
        · (simp only [Act.put,sIB,sCS,sCZ];rfl))
     | (apply walk_not rfl rfl rfl
        · (simp only [Act.put,sIB,sCS,sCZ];rfl)))
 intro wz hwz
 simp only [zCC,zNR]
 repeat rw [fin_is]
 rw [fin_cons];intro x27 hx27
 repeat rw [fin_is]
 rw [fin_cons];intro x28 hx28
 repeat rw [fin_is]
 rw [fin_cons];intro x21 hx21
 repeat rw [fin_is]
 rw [fin_cons];intro x29 hx29
 repeat rw [fin_is]
 rw [fin_cons];intro x7 hx7
 repeat rw [fin_is]
 rw [fin_nil];intro hap
 simp only [Act.put,sIB,sCS,sCZ]at hap⊢
 obtain⟨gq,oq,dq,cur,rfl,hgq,hrq,hsq⟩:=hx7
 clear hx27 hx28 hx21 hx29 hap c1 hm
 have hm:=hmA.push hwz hgq hrq
 clear hmA hgq hrq hwz
 have HSQ:=hid hsq
 have SK:=hid fun (gk:Nat)=>adiC_setk key none none (some ⟨gk,0,none⟩) HK.out
 have SS:=hid fun (gk gs:Nat)=>adiC_sets key (some ⟨gk,0,none⟩) none (some ⟨gs,0,none⟩) HK.out
 have L1:=hid (show 32<(adiC key none none).length by rw [adiC_length _ _ _ HK.out];omega)
 have L2:=hid fun (gk:Nat)=>(show 33<(adiC key (some ⟨gk,0,none⟩) none).length by rw [adiC_length _ _ _ HK.out];omega)
 have hdq:1136≤dq:=by
   rcases hsq.2 with ⟨h1,_⟩|⟨g,o,cap,cur2,h1,_,h2,_⟩
   · cases h1
   · cases h1;exact h2
 clear hsq
 have hd32:32≤dq:=by omega
 go_wp2_with (first|((with_reducible apply wq_slH (h:=32) Tryz.underlying22);infer_instance;exact rfl;exact rfl;exact rfl;exact hd32)|(go_at_call 65;(with_reducible refine(EX.out _ hm.x _ _ hd32 (slo_rdZ HSQ.out (R:=[⟨g1,125,adiC key none none⟩]) hm)).mono ?_);rintro e_ w ⟨gk,LK,rfl,hgk_,hm1,KK⟩;replace hm:=hm.join hm1;clear hm1)|((with_reducible apply wq_st1e (SK.out gk) L1.out hm);exact rfl;infer_instance;exact rfl;exact rfl;exact rfl;exact rfl;exact(Swap.app (.tl .hd));clear hm;intro w hm)|((with_reducible apply wq_slL (l:=32) (r:=1104) Tryz.underlying22);infer_instance;exact rfl;exact rfl;exact rfl;exact(by omega);exact rfl)|(go_at_call 66;(with_reducible refine(AN.out _ _ _ hdq (slo_rdZ HSQ.out (R:=[⟨g1,125,adiC key (some ⟨gk,0,none⟩) none⟩]) hm.dropN)).mono ?_);rintro e_ w ⟨gs,rfl,hgs_,LS,hm1,KS⟩;replace hm:=hm.join hm1;clear hm1)|((with_reducible apply wq_st1e (SS.out gk gs) (L2.out gk) hm);exact rfl;infer_instance;exact rfl;exact rfl;exact rfl;exact rfl;exact(Swap.app (Swap.app (.tl .hd)));clear hm;intro w hm))
 go_ret2
 refine⟨g1,_,rfl,hm.dropN.dropN.drop.base .hd,hm,fun wx hrow htab=>FIN.out g1 gk gs wx (hrow ⟨g1,125,adiC key (some ⟨gk,0,none⟩) (some ⟨gs,0,none⟩)⟩ (by simp)) (KK wx (fun b hb=>hrow b (by simp [hb])) htab) (KS wx (fun b hb=>hrow b (by simp [hb])) trivial)⟩
structure AdP where
 key:List Byte
 k0:List Byte
 ks:List (List Byte)
 kl:List Byte
 tw:List Byte
 ms:List Byte
 W:List (BitVec 32)
abbrev AdiP(w:World)(g:Nat)(P:AdP):Prop:=AdiR w g P.key P.k0 P.ks P.kl P.tw P.ms P.W
abbrev WW:=BitVec 64×BitVec 64
def wPlus(x y:WW):WW:=(x.1+y.1,x.2+y.2+carryB x.1 y.1 0#64)
def wMinus(x y:WW):WW:=(x.1-y.1,x.2-y.2-borrowB x.1 y.1 0#64)
def wBytes(x:WW):List Byte:=putL x.1 8++putL x.2 8
def wOf(b:List Byte):WW:=(num b 0 8,num b 8 8)
def adSum(P:AdP)(t b:List Byte):WW:=(asLo P.tw P.ms t b P.W,asHi P.tw P.ms t b P.W)
def adMid(P:AdP)(t m:List Byte)(n:Nat):WW:=wOf (aesE P.k0 P.ks P.kl (wBytes (wPlus (wOf (rgt m n)) (adSum P t (m.take n)))))
def adBulk(P:AdP)(t m:List Byte)(n:Nat):List Byte:=astL P.key (m.take n) (adMid P t m n).1 (adMid P t m n).2
def adEn(P:AdP)(t m:List Byte)(n:Nat):List Byte:=adBulk P t m n++wBytes (wMinus (adMid P t m n) (adSum P t (adBulk P t m n)))
theorem adBulk_length(P:AdP)(t m:List Byte)(n:Nat)(h:n≤m.length):(adBulk P t m n).length=n:=by rw [adBulk,astL_length,List.length_take];omega
theorem wBytes_length(x:WW):(wBytes x).length=16:=by rw [wBytes,List.length_append,putL_length,putL_length]
theorem adEn_length(P:AdP)(t m:List Byte)(n:Nat)(h:n≤m.length):(adEn P t m n).length=n+16:=by rw [adEn,List.length_append,adBulk_length P t m n h,wBytes_length]
theorem newL_of {w0 w:World}{B n:Nat}{X:List Byte}{v:Value}{M R:List Blk}(h0:0<n)(hB:B≤w0.heap.size)(hm:Own w0 w (M++R))(hs:SlO M 5 1 v n (X.map v8)):NewL B n X v w:=by
 have hs2:=hs
 rcases hs.2 with ⟨_,h1,_⟩|⟨g,o,cap,cur,rfl,rfl,_⟩
 · omega
 · exact⟨g,o,cap,cur,rfl,Nat.le_trans hB (show w0.heap.size≤(⟨g,5,cur⟩:Blk).g from hm.base .hd),hm.row .hd,hs2⟩
theorem aenc_any(g n:Nat)(P:AdP)(t m:List Byte)(ht:t.length≤70368744177000)(hl:m.length=n+16)(hn:n<400)(p q:Option Addr)(c d:Nat)(hc:t.length≤c)(hd:n+16≤d)(w0:World)(h:AdiP w0 g P)(hr:RdB w0 p t)(hq:RdB w0 q m):
   Calls Tryz.prog 174 #[.pointer (some ⟨g,0,none⟩), .slice p t.length c, .slice q (n+16) d] w0 fun e w'=>∃v M R,e= .returned (.tuple #[v, .int .i64 0])∧Own w0 w' (M++R)∧SlO M 5 1 v (n+16) ((adEn P t m n).map v8):=by
 have hm:=Own.start w0
 obtain⟨gk,gs,h1,hk,h2,h3⟩:=h
 have HR:=hid fun w (hx:Ext w0 w)=>row_ext h1 hx
 have EK:=hid (adiC_k P.key (some ⟨gk,0,none⟩) (some ⟨gs,0,none⟩) hk)
 have ES:=hid (adiC_s P.key (some ⟨gk,0,none⟩) (some ⟨gs,0,none⟩) hk)
 have PA:=hid fun w (hx:Ext w0 w)=>aparts_any m n hl hn q d hd w (hq.ext hx)
 have lB0:(m.take n).length=n:=by rw [List.length_take];omega
 have lB1:=adBulk_length P t m n (by omega)
 have S1:=hid fun (w:World)(hx:Ext w0 w)(q2:Option Addr)(d2:Nat)(hq2:RdB w q2 (m.take n))=>(show Gives Tryz.prog 177 #[.pointer (some ⟨gs,0,none⟩), .slice p t.length c, .slice q2 n d2] w (WV (adSum P t (m.take n)).1 (adSum P t (m.take n)).2)from by
   have:=asum_any gs P.tw P.ms t (m.take n) P.W ht (by omega) p q2 c d2 hc w (h3.ext hx) (hr.ext hx) hq2
   rwa [lB0]at this)
 have PL:=hid fun w=>(show Gives Tryz.prog 132 #[WV (num (rgt m n) 0 8) (num (rgt m n) 8 8),WV (adSum P t (m.take n)).1 (adSum P t (m.take n)).2] w (WV (wPlus (wOf (rgt m n)) (adSum P t (m.take n))).1 (wPlus (wOf (rgt m n)) (adSum P t (m.take n))).2)from oplus_any _ _ _ _ w)
 have NU:=hid fun w (hx:Ext w0 w)=>(show Gives Tryz.prog 180 #[.func (.func 67) #[.pointer (some ⟨gk,0,none⟩)] #[],WV (wPlus (wOf (rgt m n)) (adSum P t (m.take n))).1 (wPlus (wOf (rgt m n)) (adSum P t (m.take n))).2] w (WV (adMid P t m n).1 (adMid P t m n).2)from anum_enc gk P.k0 P.kl P.ks _ _ w (h2.ext hx))
 have ST:=hid fun (w:World)(hx:Ext w0 w)(q2:Option Addr)(d2:Nat)(hd2:n≤d2)(hq2:RdB w q2 (m.take n))=>(show Calls Tryz.prog 178 #[.pointer (some ⟨g,0,none⟩),WV (adMid P t m n).1 (adMid P t m n).2, .slice q2 n d2] w fun e w'=>∃p c,e= .returned (.slice p n c)∧n≤c∧RdB w' p (adBulk P t m n)∧Ext w w' from by
   have:=astream_any g P.key (m.take n) (some ⟨gk,0,none⟩) (some ⟨gs,0,none⟩) (adMid P t m n).1 (adMid P t m n).2 hk (by omega) q2 d2 (by omega) w (row_ext h1 hx) hq2
   rw [lB0]at this
   exact this)
 have S2:=hid fun (w:World)(hx:Ext w0 w)(q2:Option Addr)(d2:Nat)(hq2:RdB w q2 (adBulk P t m n))=>(show Gives Tryz.prog 177 #[.pointer (some ⟨gs,0,none⟩), .slice p t.length c, .slice q2 n d2] w (WV (adSum P t (adBulk P t m n)).1 (adSum P t (adBulk P t m n)).2)from by
   have:=asum_any gs P.tw P.ms t (adBulk P t m n) P.W ht (by omega) p q2 c d2 hc w (h3.ext hx) (hr.ext hx) hq2
   rwa [lB1]at this)
 have MI:=hid fun w=>(show Gives Tryz.prog 182 #[WV (adMid P t m n).1 (adMid P t m n).2,WV (adSum P t (adBulk P t m n)).1 (adSum P t (adBulk P t m n)).2] w (WV (wMinus (adMid P t m n) (adSum P t (adBulk P t m n))).1 (wMinus (adMid P t m n) (adSum P t (adBulk P t m n))).2)from ominus_any _ _ _ _ w)
 have JO:=hid fun (w wx:World)(hx:Ext w wx)(q2:Option Addr)(d2:Nat)(hd2:n≤d2)(hq2:RdB wx q2 (adBulk P t m n))=>(show GivesR Tryz.prog 179 #[.slice q2 n d2,WV (wMinus (adMid P t m n) (adSum P t (adBulk P t m n))).1 (wMinus (adMid P t m n) (adSum P t (adBulk P t m n))).2] wx (NewL w.heap.size (n+16) (adEn P t m n))from by
   have h0:=ajoined_any (adBulk P t m n) (wMinus (adMid P t m n) (adSum P t (adBulk P t m n))).1 (wMinus (adMid P t m n) (adSum P t (adBulk P t m n))).2 (by omega) q2 d2 (by omega) wx hq2
   rw [lB1]at h0
   refine Calls.mono h0 ?_
   rintro e w' ⟨v,M,R,rfl,hm1,hs⟩
   exact⟨v,rfl,newL_of (by omega) hx.size hm1 hs,hm1.x⟩)
 have AW:=hid fun w=>awrong_any g q (n+16) d (by omega) w
 generalize (adSum P t (m.take n)).1=s1 at*
 generalize (adSum P t (m.take n)).2=s2 at*
 generalize (wPlus (wOf (rgt m n)) (adSum P t (m.take n))).1=x1 at*
 generalize (wPlus (wOf (rgt m n)) (adSum P t (m.take n))).2=x2 at*
 generalize num (rgt m n) 0 8=r1 at*
 generalize num (rgt m n) 8 8=r2 at*
 generalize (wMinus (adMid P t m n) (adSum P t (adBulk P t m n))).1=y1 at*
 generalize (wMinus (adMid P t m n) (adSum P t (adBulk P t m n))).2=y2 at*
 generalize (adSum P t (adBulk P t m n)).1=u1 at*
 generalize (adSum P t (adBulk P t m n)).2=u2 at*
 generalize (adMid P t m n).1=e1 at*
 generalize (adMid P t m n).2=e2 at*
 generalize adEn P t m n=OUT at*
 generalize adBulk P t m n=B1 at*
 generalize m.take n=B0 at*
 generalize adiC P.key (some ⟨gk,0,none⟩) (some ⟨gs,0,none⟩)=PC at*
 obtain⟨TL,hTL⟩:=exq (t.length)
 rw [←hTL]at S1 S2⊢
 have LB0:=hid lB0
 have LB1:=hid lB1
 clear h1 h2 h3 hr hq ht hl hk hc hTL lB0 lB1
 go_enter Tryz.func174,Tryz.ntmps174
 go_wp2_with (first|(go_at_call 175;(with_reducible refine(AW.out _).mono ?_);rintro e_ w_ ⟨rfl,rfl⟩)|(go_at_call 176;(with_reducible refine(PA.out _ hm.x).mono ?_);rintro e_ w ⟨v1,M1,R1,rfl,hm1,hs1⟩;replace hm:=hm.join hm1;obtain⟨p1,c1,rfl⟩:=hs1.form;clear hm1)|((((with_reducible show qSt);first|(refine zE hm ?_)));clear hm;intro w hm)|((first|((with_reducible show qAl);first|(refine zG hm ?_)));clear hm;intro gx_;intro w hm))
 rw [List.append_nil]at hm
 have HS1:=hid hs1
 have RB:=hid fun wx L (h:Own w0 wx (L++(M1++R1)))=>slo_rdZ hs1 h.dropN
 have c16:n≤c1:=by
   obtain⟨_,_,hv,h1,_⟩:=hs1.cells hm.drop
   cases hv
   exact h1
 clear hs1
 have hx0:=hm.x
 have hmA:=hm
 have a1:=fun wx (hwx:Ext w wx)=>S1.out wx (hx0.trans hwx) p1 c1 (RB.out wx [_] (hmA.ext hwx))
 have a2:=fun wx (hwx:Ext w wx)=>PL.out wx
 have a3:=fun wx (hwx:Ext w wx)=>NU.out wx (hx0.trans hwx)
 have R5:=hid fun wx (hwx:Ext w wx)=>HR.out wx (hx0.trans hwx)
 refine region_new 16 (fun w'=>Ext _ w') 53 (by kernel_rfl) (by kernel_rfl) rfl (fun _ _ h k=>h.trans k) (drew_ext _) ?_
 simp only [tSC,tZe,dSC,dZe,mCo,mNi]
 repeat (first
     | (apply walk_some (NewS (w.heap.size) 191 ([v64 0#64,v64 0#64])) 11 (NewS.stable _ _ _) rfl rfl rfl rfl
        · (intro wx hwx;go_simp;exact gives_new (cs:=[v64 0#64,v64 0#64]) hwx.size))
     | (apply walk_is rfl rfl rfl
        · (intro wx hwx;(with_reducible apply gq_row1 ((R5.out) wx hwx));infer_instance;exact rfl;(first|exact EK.out|exact ES.out))
        · (simp only [Act.put,sIB,sCS,sCZ];rfl))
     | (apply walk_is rfl rfl rfl
        · (intro wx hwx;first|((with_reducible show qGl);first|(exact zK (hm.ext hwx)))|(go_simp;(try go_bits);first|exact gives_same|exact gives_skip|with_reducible exact gives_call (a1 wx hwx)|with_reducible exact gives_call (a2 wx hwx)|with_reducible exact gives_call (a3 wx hwx)))
        · (simp only [Act.put,sIB,sCS,sCZ];rfl))
     | (apply walk_not rfl rfl rfl
        · (simp only [Act.put,sIB,sCS,sCZ];rfl)))
 intro wz hwz
 simp only [zCC,zNR]
 repeat rw [fin_is]
 rw [fin_cons];intro x11 hx11
 repeat rw [fin_is]
 rw [fin_nil];intro hap
 simp only [Act.put,sIB,sCS,sCZ]at hap⊢
 obtain⟨g11_,rfl,hg11,hr11⟩:=hx11
 replace hm:=hm.push hwz hg11 hr11
 clear hap hr11
 clear a1 a2 a3 hmA hx0 R5
 go_wp2_with (first|((with_reducible show qLd);first|(refine zB hm ?_))|((((with_reducible show qSt);first|(refine zE hm ?_)));clear hm;intro w hm))
 refine(ST.out w hm.x p1 c1 c16 (RB.out w [_,_] hm)).mono ?_
 rintro e_ w ⟨p2,c2,rfl,hc2,hr2,hx_⟩
 replace hm:=hm.ext hx_
 clear hx_
 have HR2:=hid hr2
 clear hr2
 go_wp2_with fail
 have hx0:=hm.x
 have hmA:=hm
 have a1:=fun wx (hwx:Ext w wx)=>S2.out wx (hx0.trans hwx) p2 c2 (HR2.out.ext hwx)
 have a2:=fun wx (hwx:Ext w wx)=>MI.out wx
 have a3:=fun wx (hwx:Ext w wx)=>JO.out w wx hwx p2 c2 hc2 (HR2.out.ext hwx)
 have R5:=hid fun wx (hwx:Ext w wx)=>HR.out wx (hx0.trans hwx)
 refine region_new 11 (fun w'=>Ext _ w') 53 (by kernel_rfl) (by kernel_rfl) rfl (fun _ _ h k=>h.trans k) (drew_ext _) ?_
 simp only [tSC,tZe,dSC,dZe,mCo,mNi]
 repeat (first
     | (apply walk_is rfl rfl rfl
        · (intro wx hwx;(with_reducible apply gq_row1 ((R5.out) wx hwx));infer_instance;exact rfl;(first|exact EK.out|exact ES.out))
        · (simp only [Act.put,sIB,sCS,sCZ];rfl))
     | (apply walk_some (NewL w.heap.size (n+16) OUT) 52 (NewL.stable _ _ _) rfl rfl rfl rfl
        · (intro wx hwx;go_simp;with_reducible exact gives_callR (a3 wx hwx)))
     | (apply walk_is rfl rfl rfl
        · (intro wx hwx;first|((with_reducible show qGl);first|(exact zK (hm.ext hwx)))|(go_simp;(try go_bits);first|exact gives_same|exact gives_skip|with_reducible exact gives_call (a1 wx hwx)|with_reducible exact gives_call (a2 wx hwx)))
        · (simp only [Act.put,sIB,sCS,sCZ];rfl))
     | (apply walk_not rfl rfl rfl
        · (simp only [Act.put,sIB,sCS,sCZ];rfl)))
 intro wz hwz
 simp only [zCC,zNR]
 repeat rw [fin_is]
 rw [fin_cons];intro x52 hx52
 repeat rw [fin_is]
 rw [fin_nil];intro hap
 simp only [Act.put,sIB,sCS,sCZ]at hap⊢
 obtain⟨gj,oj,dj,cur,rfl,hgj,hrj,hsj⟩:=hx52
 clear hm a1 a2 a3 hap hx0 R5
 have hm:=hmA.push hwz hgj hrj
 clear hmA hwz hgj hrj
 have HSJ:=hid hsj
 clear hsj
 go_wp2_with fail
 go_ret2
 exact⟨_,[⟨gj,5,cur⟩],_,rfl,hm,HSJ.out⟩
theorem hcplus_any(ks:List (List Byte))(p:Option Addr)(c:Nat)(w0:World)(hk:RdK w0 p 16 ks)(hc:ks.length≤c)(hcm:ks.length≤70368744177664):Gives Tryz.prog 216 #[.slice p ks.length c] w0 (A8 (plusL (zer 16) ks)):=by
 unfold Gives
 have hm:=Own.start w0
 have HK:=hid hk
 have HZ:=hid (show(zer (n:=8) 16).length=16 from zer_length)
 clear hk
 go_enter Tryz.func216,Tryz.ntmps216
 go_wp2_with (first|((first|((with_reducible show qAl);first|(refine zG hm ?_)));clear hm;(first|(have hx_:=g1;clear hx_;(first|(have hx_:=g2;clear hx_;(first|(have hx_:=g3;clear hx_;intro gx_)|intro g3))|intro g2))|intro g1);intro w hm))
 go_loopw [9] (fun i wr=>∃k:Nat,k≤ks.length∧i= .int .i64 k∧Own w0 wr [⟨g2,132,(plusL (zer 16) (ks.take k)).map v8⟩,⟨g1,132,(zer 16).map v8⟩]) (fun i _=>ks.length-(intOf i).toNat)
 case atStart=>exact⟨0,by omega,rfl,hm⟩
 case round =>
   obtain⟨k,hk,rfl,hm⟩:=hrel
   have hB:=plusL_length (ks.take k) (zer 16) HZ.out
   by_cases hlt:k<ks.length
   · have hd : decide ((k:Int)<(ks.length:Int))=true:=decide_eq_true (by omega)
     have hd2:(k:Int)<(ks.length:Int):=by omega
     obtain⟨a,rfl⟩:=HK.out.addr (by omega) (by omega)
     obtain⟨hK,hKl⟩:=HK.out.at (by omega) k hlt
     have hS:=plusL_take (zer 16) ks k hlt
     simp only [Option.getD_some]at hK
     generalize plusL (zer 16) (ks.take k)=B at*
     generalize ks.getD k []=K at*
     have HS:=hid hS
     have HK2:=hid hK
     have ES:Hid (B=part 16 0 (fun i=>nth B i^^^nth K i) (nth B)):=hid (part_start hB)
     have EE:Hid (part 16 16 (fun i=>nth B i^^^nth K i) (nth B)=bothL B K):=hid part_all
     have hK1:=Nat.le_of_eq hKl
     have hK2':=Nat.le_of_eq hKl.symm
     clear hK hS
     go_wp2_with (first|((with_reducible apply wq_rdW (HK2.out.ext hm.x));exact rfl;infer_instance;exact rfl;exact hKl)|((((with_reducible show qSt);first|(refine zE hm ?_)));clear hm;intro w hm)|((first|((with_reducible show qAl);first|(refine zG hm ?_)));clear hm;(first|(have hx_:=g1;clear hx_;(first|(have hx_:=g2;clear hx_;(first|(have hx_:=g3;clear hx_;intro gx_)|intro g3))|intro g2))|intro g1);intro w hm))
     rw [ES.out]at hm
     go_loopw [13] (fun i wr=>∃j:Nat,j≤16∧i= .int .i64 j∧Own w0 wr [⟨g3,132,K.map v8⟩,⟨g2,132,(part 16 j (fun i=>nth B i^^^nth K i) (nth B)).map v8⟩,⟨g1,132,(zer 16).map v8⟩]) (fun i _=>16-(intOf i).toNat)
     case atStart=>exact⟨0,by omega,rfl,hm⟩
     case round =>
       obtain⟨j,hj,rfl,hm⟩:=hrel
       by_cases hjl:j<16
       · have hj1:decide ((j:Int)<16)=true:=decide_eq_true (by omega)
         have hj2:(j:Int)<16:=by omega
         have EJ:Hid (setN (part 16 j (fun i=>nth B i^^^nth K i) (nth B)) j (nth (part 16 j (fun i=>nth B i^^^nth K i) (nth B)) j^^^nth K j)=part 16 (j+1) (fun i=>nth B i^^^nth K i) (nth B)):=hid (by
           rw [nth_part_ge hjl (Nat.le_refl _)];exact part_set (f:=fun i=>nth B i^^^nth K i) hjl)
         have lJ:(part 16 j (fun i=>nth B i^^^nth K i) (nth B)).length=16:=part_length
         generalize part 16 j (fun i=>nth B i^^^nth K i) (nth B)=C at*
         go_wp2_with fail
         refine rgE 8 27 ?_
         simp only [tSC,tZe,dSC,dZe,mCo,mNi]
         repeat (first
             | (apply walk_is rfl rfl rfl
                · (intro wx hwx;first|((with_reducible show qGl);first|(exact zJ (hm.ext hwx)))|(go_simp;(try go_bits);first|exact gives_same|exact gives_skip))
                · (simp only [Act.put,sIB,sCS,sCZ];rfl))
             | (apply walk_not rfl rfl rfl
                · (simp only [Act.put,sIB,sCS,sCZ];rfl)))
         intro wz hwz
         simp only [zCC,zNR]
         repeat (first|rw [fin_is]|(rw [fin_cons];intro _ _))
         rw [fin_nil]
         try (replace hm:=hm.ext hwz)
         simp only [Act.put,sIB,sCS,sCZ]
         go_wp2_with (first|((((with_reducible show qSt);first|(refine zD hm ?_)));clear hm;intro w hm))
         go_roundw
         case rel=>
           rw [EJ.out]at hm
           exact⟨j+1,by omega,by go_num,hm⟩
         case measure=>simp [intOf]<;>omega
       · obtain rfl:j=16:=by omega
         have hj1:decide (((16:Nat):Int)<16)=false:=decide_eq_false (by omega)
         rw [EE.out]at hm
         go_wp2_with fail
         go_roundw
         case rel=>exact⟨k+1,by omega,by go_num,by rw [HS.out];exact hm.drop⟩
         case measure=>simp [intOf]<;>omega
   · obtain rfl:k=ks.length:=by omega
     have hd:decide ((ks.length:Int)<(ks.length:Int))=false:=decide_eq_false (by omega)
     rw [List.take_length]at hm hB
     go_wp2_with (first|((with_reducible show qLd);first|(refine zB hm ?_))|((((with_reducible show qSt);first|(refine zE hm ?_)));clear hm;intro w hm))
     refine rtO hm rfl rfl ⟨rfl,hm.x⟩
theorem hzer_both(a:List Byte)(h:a.length=16):bothL (zer 16) a=a:=nth_ext (by rw [bothL_length,h]) fun i hi=>by
 rw [bothL_length]at hi
 rw [bothL_nth _ _ _ hi,zer,nth_tab hi]
 exact BitVec.zero_xor
theorem hcplus_two(a b:List Byte)(ha:a.length=16)(hb:b.length=16)(p:Option Addr)(c:Nat)(w0:World)(hk:RdK w0 p 16 [a,b])(hc:2≤c):Gives Tryz.prog 216 #[.slice p 2 c] w0 (A8 (bothL a b)):=by
 have:=hcplus_any [a,b] p c w0 hk hc (by simp)
 rwa [show plusL (zer 16) [a,b]=bothL a b from by show bothL (bothL (zer 16) a) b=_;rw [hzer_both _ ha]]at this
def OneS(w0:World)(R:List Blk)(g:Nat)(T:TypeId)(c0 c1:List Value)(s:List (Option Value))(w:World):Prop:=
 ∃a,s=[a]∧((a=none∧Own w0 w (⟨g,T,c0⟩::R))∨∃u,a=some u∧Own w0 w (⟨g,T,c1⟩::R))
section
variable {w0 w:World} {R:List Blk} {g:Nat} {T:TypeId} {c0 c1:List Value} {s:List (Option Value)}
theorem OneS.ext(s:List (Option Value))(w w':World)(h:OneS w0 R g T c0 c1 s w)(hx:Ext w w'):OneS w0 R g T c0 c1 s w':=by
 obtain⟨a,rfl,h⟩:=h
 rcases h with ⟨h1,h2⟩|⟨u,h1,h2⟩
 · exact⟨a,rfl, .inl ⟨h1,h2.ext hx⟩⟩
 · exact⟨a,rfl, .inr ⟨u,h1,h2.ext hx⟩⟩
theorem OneS.start(h:Own w0 w (⟨g,T,c0⟩::R)):OneS w0 R g T c0 c1 (List.replicate 1 none) w:=⟨none,rfl, .inl ⟨rfl,h⟩⟩
theorem OneS.any(h:OneS w0 R g T c0 c1 s w):∃cs,(cs=c0∨cs=c1)∧Own w0 w (⟨g,T,cs⟩::R):=by
 obtain⟨a,rfl,⟨_,h⟩|⟨_,_,h⟩⟩:=h
 · exact⟨_, .inl rfl,h⟩
 · exact⟨_, .inr rfl,h⟩
theorem OneS.st(h:OneS w0 R g T c0 c1 s w)(hn:s[0]? =some none):Own w0 w (⟨g,T,c0⟩::R)∧∀u w',Own w0 w' (⟨g,T,c1⟩::R)→OneS w0 R g T c0 c1 (s.set 0 (some u)) w':=by
 obtain⟨a,rfl,h⟩:=h
 obtain rfl:a=none:=by simpa using hn
 rcases h with ⟨_,h⟩|⟨_,h1,_⟩
 · exact⟨h,fun u w' hm=>⟨_,rfl, .inr ⟨u,rfl,hm⟩⟩⟩
 · cases h1
theorem OneS.fin(h:OneS w0 R g T c0 c1 s w)(hl:∀i,i<1→∃x,s[i]? =some (some x)):Own w0 w (⟨g,T,c1⟩::R):=by
 obtain⟨a,rfl,h⟩:=h
 obtain⟨x,hx⟩:=hl 0 (by omega)
 simp at hx
 subst hx
 rcases h with ⟨h1,_⟩|⟨_,_,h⟩
 · cases h1
 · exact h
end
theorem gq_bld0 {P:Program}{dst:Option Tmp}{ty:TypeId}{pos:String}{aft:Array Edge}{gd:Option (Nat×Bool)}{a:Act}{w:World}{T:TypeId}{v:Value}(hb:∀w,(Instr.build T #[]).run P w= .ok v w):gives P w (Is v) ((execOp a.eval (Oper.mk dst (.build T #[]) ty pos aft gd)).run P w):=by
 unfold execOp
 have h:=hb w
 simp [h]
 exact gives_same
def hcC(gk:Nat)(h l:List Byte):List Value:=[.pointer (some ⟨gk,0,none⟩)]++(h.map v8++l.map v8)
theorem hcC_length(gk:Nat)(h l:List Byte)(h1:h.length=16)(h2:l.length=16):(hcC gk h l).length=33:=by simp [hcC,h1,h2]
theorem hcC_h(gk:Nat)(h l:List Byte)(h1:h.length=16):((hcC gk h l).drop 1).take 16=h.map v8:=by
 rw [hcC,List.drop_left' (by rfl)];exact List.take_left' (by simp [h1])
theorem hcC_l(gk:Nat)(h l:List Byte)(h1:h.length=16)(h2:l.length=16):((hcC gk h l).drop 17).take 16=l.map v8:=by
 rw [hcC,←List.append_assoc,List.drop_left' (by simp [h1]),List.take_of_length_le (by simp [h2])]
theorem hcC_seth(gk:Nat)(h l x:List Byte)(h1:h.length=16):(hcC gk h l).take 1++x.map v8++(hcC gk h l).drop (1+16)=hcC gk x l:=by
 have e:(hcC gk h l).drop (1+16)=l.map v8:=by rw [hcC,←List.append_assoc,List.drop_left' (by simp [h1])]
 rw [e];simp [hcC]
theorem hcC_setl(gk:Nat)(h l x:List Byte)(h1:h.length=16)(h2:l.length=16):(hcC gk h l).take 17++x.map v8++(hcC gk h l).drop (17+16)=hcC gk h x:=by
 have e:(hcC gk h l).drop (17+16)=[]:=List.drop_of_length_le (by rw [hcC_length _ _ _ h1 h2];omega)
 have e2:(hcC gk h l).take 17=[.pointer (some ⟨gk,0,none⟩)]++h.map v8:=by rw [hcC,←List.append_assoc];exact List.take_left' (by simp [h1])
 rw [e,e2];simp [hcC]
def hone:List Byte:=setN (zer 16) 0 1#8
theorem hone_length:hone.length=16:=by rw [hone,setN_length,zer_length]
theorem build_h0(w:World):(Instr.build 132 #[]).run Tryz.prog w= .ok (A8 (zer 16)) w:=by kernel_rfl
theorem build_h1(w:World):(Instr.build 132 #[(0, .int .u8 1)]).run Tryz.prog w= .ok (A8 hone) w:=by kernel_rfl
theorem build_hc(gk:Nat)(w:World):(Instr.build 134 #[(0, .pointer (some ⟨gk,0,none⟩))]).run Tryz.prog w= .ok (.agg (hcC gk (zer 16) (zer 16)).toArray) w:=by kernel_rfl
def HcR(w:World)(g:Nat)(k0:List Byte)(ks:List (List Byte))(kl h l:List Byte):Prop:=∃gk,Row w g 134 (hcC gk h l)∧AesR w gk k0 ks kl∧h.length=16∧l.length=16
theorem HcR.ext {w w':World}{g:Nat}{k0 kl h l:List Byte}{ks:List (List Byte)}(q:HcR w g k0 ks kl h l)(hx:Ext w w'):HcR w' g k0 ks kl h l:=by
 obtain⟨gk,h1,h2,h3⟩:=q
 exact⟨gk,row_ext h1 hx,h2.ext hx,h3⟩
abbrev hcH(key:List Byte):List Byte:=aesE (eK0 key) (eKs key) (eKl key) (zer 16)
abbrev hcL(key:List Byte):List Byte:=aesE (eK0 key) (eKs key) (eKl key) hone
theorem hnew_any(gt gb:Nat)(key:List Byte)(hk:key.length=16∨key.length=24∨key.length=32)(p:Option Addr)(c:Nat)(hc:key.length≤c)(w0:World)(hr:RdB w0 p key)(ht:TabR gt gb w0):
   Calls Tryz.prog 46 #[.pointer (some ⟨gt,0,none⟩), .slice p key.length c] w0 fun e w'=>∃g L,e= .returned (.tuple #[.pointer (some ⟨g,0,none⟩), .int .i64 0])∧w0.heap.size≤g∧Own w0 w' L∧Keeps L (TabR gt gb) (fun wx=>HcR wx g (eK0 key) (eKs key) (eKl key) (hcH key) (hcL key)):=by
 have hm:=Own.start w0
 have EX:=hid fun (w:World)(hx:Ext w0 w)=>expand_any gt gb key hk p c w (hr.ext hx) hc (ht.ext hx)
 have HT:=hid fun w (hx:Ext w0 w)=>ht.ext hx
 have lH:(hcH key).length=16:=aesE_length _ _ _ _
 have lL:(hcL key).length=16:=aesE_length _ _ _ _
 have EH:=hid fun (gk:Nat)(w:World)(h:AesR w gk (eK0 key) (eKs key) (eKl key))=>(show Gives Tryz.prog 67 #[.pointer (some ⟨gk,0,none⟩),A8 (zer 16)] w (A8 (hcH key))from encrypt_any gk _ _ _ _ zer_length w h)
 have EL:=hid fun (gk:Nat)(w:World)(h:AesR w gk (eK0 key) (eKs key) (eKl key))=>(show Gives Tryz.prog 67 #[.pointer (some ⟨gk,0,none⟩),A8 hone] w (A8 (hcL key))from encrypt_any gk _ _ _ _ hone_length w h)
 have FIN:Hid (∀(g gk:Nat)(wx:World),Row wx g 134 (hcC gk (hcH key) (hcL key))→AesR wx gk (eK0 key) (eKs key) (eKl key)→HcR wx g (eK0 key) (eKs key) (eKl key) (hcH key) (hcL key)):=hid fun g gk wx h1 h2=>⟨gk,h1,h2,lH,lL⟩
 obtain⟨H,hH⟩:=exq (hcH key)
 obtain⟨L,hL⟩:=exq (hcL key)
 rw [←hH]at lH EH FIN⊢
 rw [←hL]at lL EL FIN⊢
 have SH:=hid fun gk=>hcC_seth gk (zer 16) (zer 16) H zer_length
 have SL:=hid fun gk=>hcC_setl gk H (zer 16) L lH zer_length
 have L0:=hid fun gk=>hcC_length gk (zer 16) (zer 16) zer_length zer_length
 have L1:=hid fun gk=>hcC_length gk H (zer 16) lH zer_length
 have C0:=hid fun gk cs (h:cs=hcC gk (zer 16) (zer 16)∨cs=hcC gk H (zer 16))=>(show cs[0]? =some (.pointer (some ⟨gk,0,none⟩))from by rcases h with rfl|rfl<;>rfl)
 have BH:=hid build_hc
 have B0:=hid build_h0
 have B1:=hid build_h1
 have LH:=hid lH
 have LL:=hid lL
 clear hr ht hk hc lH lL hH hL
 go_enter Tryz.func46,Tryz.ntmps46
 go_wp2_with (first|(go_at_call 65;(with_reducible refine(EX.out _ hm.x).mono ?_);rintro e_ w ⟨gk,LK,rfl,hgk_,hm1,KK⟩;replace hm:=hm.join hm1;clear hm1)|((with_reducible apply wq_build1 (BH.out gk));exact rfl;exact rfl)|((first|((with_reducible show qBx);first|(refine zH hm ?_)));clear hm;(first|(have hx_:=g1;clear hx_;intro gx_)|intro g1);intro w hm))
 have KA:=hid fun (wx:World)(cs:List Value)(h:Own w0 wx (⟨g1,134,cs⟩::(LK++[])))=>KK wx (fun b hb=>h.rows b (by simp [hb])) (HT.out wx h.x)
 have EHk:=hid fun (wx:World)(cs:List Value)(h:Own w0 wx (⟨g1,134,cs⟩::(LK++[])))=>EH.out gk wx (KA.out wx cs h)
 have ELk:=hid fun (wx:World)(cs:List Value)(h:Own w0 wx (⟨g1,134,cs⟩::(LK++[])))=>EL.out gk wx (KA.out wx cs h)
 refine pregion 17 (Marks.of (OneS w0 (LK++[]) g1 134 (hcC gk (zer 16) (zer 16)) (hcC gk H (zer 16))) OneS.ext) [16] 40 (by kernel_rfl) (by kernel_rfl) rfl (OneS.start (hm.ext (drew_ext _))) ?_
 simp only [tSC,tZe,dSC,dZe,mCo,mNi]
 repeat (first
     |(apply pwalk_is rfl rfl rfl rfl;(intro vs_ wx hJ_;obtain⟨cs_,hcs_,hm⟩:=OneS.any hJ_;(with_reducible apply gq_ld1 hm);infer_instance;exact rfl;exact .hd;exact(C0.out gk cs_ hcs_));(simp only [Act.put,sIB,sCS,sCZ];rfl))
     |(apply pwalk_is rfl rfl rfl rfl;(intro vs_ wx hJ_;obtain⟨cs_,hcs_,hm⟩:=OneS.any hJ_;(with_reducible apply gq_bld1 B1.out);exact rfl);(simp only [Act.put,sIB,sCS,sCZ];rfl))
     |(apply pwalk_is rfl rfl rfl rfl;(intro vs_ wx hJ_;obtain⟨cs_,hcs_,hm⟩:=OneS.any hJ_;(with_reducible apply gq_bld0 B0.out));(simp only [Act.put,sIB,sCS,sCZ];rfl))
     | (apply pwalk_mark (T:=[]) 0 [] rfl rfl rfl (by kernel_rfl) rfl
        · (intro vs_ wx hJ_ hn_ hD_;simp only [pwithS];obtain⟨hm,hK_⟩:=OneS.st hJ_ hn_;refine⟨rfl, ?_⟩;(with_reducible apply wq_stA hm);exact rfl;infer_instance;exact rfl;exact rfl;(exact .hd);(exact SH.out gk);(exact(by rw [List.length_map];exact LH.out));(exact(by rw [L0.out];omega));(exact(one_map _));clear hm;intro w_ hm;exact mark_end rfl (fun u_=>hK_ u_ _ hm)))
     | (apply pwalk_is rfl rfl rfl rfl
        · (intro vs_ wx hJ_;obtain⟨cs_,hcs_,hm⟩:=OneS.any hJ_;first|((with_reducible show qGl);first|(exact zJ hm)|(exact zK hm)|(exact zL hm))|(go_simp;(try go_bits);first|exact gives_same|exact gives_skip|with_reducible exact gives_call (EHk.out wx cs_ hm)|with_reducible exact gives_call (ELk.out wx cs_ hm)))
        · (simp only [Act.put,sIB,sCS,sCZ];rfl)))
 intro vs_ wz hJ_ hl_ hall_
 simp only [zCC,zNR]
 repeat rw [pfin_is]
 rw [pfin_cons];intro y1 hy1
 repeat rw [pfin_is]
 rw [pfin_nil]
 simp only [Act.put,sIB,sCS,sCZ]
 clear hm
 have hm:=OneS.fin hJ_ (fun i hi=>hall_ i hi)
 clear hJ_ hl_ hall_ hy1
 go_wp2_with (first|((with_reducible apply wq_stA hm);exact rfl;infer_instance;exact rfl;exact rfl;(focus ((repeat (first|exact .hd|assumption|apply Swap.tl|apply Swap.app));done));(exact SL.out gk);(exact(by rw [List.length_map];exact LL.out));(exact(by rw [L1.out];omega));(exact(one_map _));clear hm;intro w hm))
 go_ret2
 refine⟨g1,rfl,(show w0.heap.size≤(⟨g1,134,hcC gk H L⟩:Blk).g from hm.base .hd),_,hm,fun wx hrow htab=>FIN.out g1 gk wx (hrow ⟨g1,134,hcC gk H L⟩ (by simp)) (KK wx (fun b hb=>hrow b (by simp [hb])) htab)⟩
def setE(l:List (BitVec 64))(n:Nat)(x:W2):List (BitVec 64):=setN (setN l (2*n) x.1) (2*n+1) x.2
theorem setE_length(l:List (BitVec 64))(n:Nat)(x:W2):(setE l n x).length=l.length:=by simp [setE]
def inE(l:List (BitVec 64))(one:W2)(b:Nat):Nat→List (BitVec 64)
 |0=>l
 |i+1=>setE (inE l one b i) (b+i) (plusW (ent (inE l one b i) i) one 1#64)
theorem inE_length(l:List (BitVec 64))(one:W2)(b i:Nat):(inE l one b i).length=l.length:=by
 induction i with
 |zero=>rfl
 |succ i ih=>rw [inE,setE_length,ih]
def tbE(one:W2):Nat→List (BitVec 64)
 |0=>zer 32
 |k+1=>inE (tbE one k) (upK one k) (2^k) (2^k)
theorem tbE_length(one:W2)(k:Nat):(tbE one k).length=32:=by
 induction k with
 |zero=>exact zer_length
 |succ k ih=>rw [tbE,inE_length,ih]
def oneE(h:List Byte):W2:=dotF (num h 0 8,num h 8 8) (1#64,0#64) 128
def mkT(h:List Byte):List (BitVec 64):=tbE (oneE h) 4
theorem mkT_length(h:List Byte):(mkT h).length=32:=tbE_length _ _
theorem set_two {α :Type}(l:List α)(k:Nat)(a b: α)(h:k+1<l.length):l.take k++[a,b]++l.drop (k+2)=(l.set k a).set (k+1) b:=by
 have e1:(l.set k a).take (k+1)=l.take k++[a]:=by
   rw [List.take_succ_eq_append_getElem (by rw [List.length_set];omega),List.take_set_of_le (Nat.le_refl _)];simp
 rw [List.set_eq_take_append_cons_drop,if_pos (by rw [List.length_set];omega),e1,List.drop_set_of_lt (by omega)];simp
theorem setE_cells(l:List (BitVec 64))(n:Nat)(x:W2)(h:2*n+1<l.length):(l.map v64).take (n*2)++[v64 x.1,v64 x.2]++(l.map v64).drop (n*2+2)=(setE l n x).map v64:=by
 rw [set_two _ _ _ _ (by rw [List.length_map];omega),mapv_set,mapv_set,setE,Nat.mul_comm n 2]
theorem or_pow(k i:Nat)(hk:k<4)(hi:i<2^k):bits BinOp.or IntKind.i64 ((2^k:Nat):Int) (i:Int)=((2^k+i:Nat):Int):=by
 have:∀(k:Fin 4)(i:Fin 8),i.val<2^k.val→bits BinOp.or IntKind.i64 ((2^k.val:Nat):Int) (i.val:Int)=((2^k.val+i.val:Nat):Int):=by decide+kernel
 have h8:2^k≤2^3:=Nat.pow_le_pow_right (by omega) (by omega)
 exact this ⟨k,hk⟩ ⟨i,by omega⟩ hi
theorem wrap_pow(k:Nat)(hk:k<4):wrap64 ((2:Int)^k)=((2^k:Nat):Int):=by
 rcases (show k=0∨k=1∨k=2∨k=3 by omega)with rfl|rfl|rfl|rfl<;>decide+kernel
theorem rmake_tab(h:List Byte)(hh:h.length=16)(w0:World):Calls Tryz.prog 226 #[A8 h] w0 fun e w'=>∃g,e= .returned (.pointer (some ⟨g,0,none⟩))∧w0.heap.size≤g∧Row w' g 304 ((mkT h).map v64)∧Ext w0 w':=by
 have hm:=Own.start w0
 have L1:=hid fun (w:World)(p:Option Addr)(c:Nat)(hr:RdB w p h)=>show Gives Tryz.prog 183 #[.slice p 16 c] w (WV (num h 0 8) (num h 8 8))from by
   have:=load_any h p c w hr (by omega);rwa [hh]at this
 have D1:=hid fun (w:World)=>show Gives Tryz.prog 228 #[WV (num h 0 8) (num h 8 8), .agg #[.int .u64 1, .int .u64 0]] w (WP (oneE h))from ridot_any (num h 0 8,num h 8 8) (1#64,0#64) w
 have BZ:=hid fun w=>(by kernel_rfl:(Instr.build 191 #[(0, .int .u64 1)]).run Tryz.prog w= .ok (WV 1#64 0#64) w)
 have BT:=hid fun w=>(by kernel_rfl:(Instr.build 304 #[]).run Tryz.prog w= .ok (.agg ((zer (n:=64) 32).map v64).toArray) w)
 have U1:=hid fun (s:W2)(w:World)=>riup_any s w
 have PL:=hid fun (l:List (BitVec 64))(s:W2)(n:Nat)(w:World)=>show Gives Tryz.prog 229 #[.agg #[v64 (nth l (2*n)),v64 (nth l (2*n+1))],WP s, .int .u64 1] w (WP (plusW (ent l n) s 1#64))from riplus_any (ent l n) s 1#64 w
 have ET:=hid (show mkT h=tbE (oneE h) 4 from rfl)
 generalize oneE h=O at*
 generalize num h 0 8=h0 at*
 generalize num h 8 8=h1 at*
 have ha1:=Nat.le_of_eq hh
 have ha2:=Nat.le_of_eq hh.symm
 go_enter Tryz.func226,Tryz.ntmps226
 have bt:=BT.out
 have bz:=BZ.out
 go_wp2_with (first|(go_at_call 183;(with_reducible refine(L1.out _ _ _ (hm.rdB (g:=g1) (l:=h) (by repeat (first|exact Has.hd|assumption|apply Has.tl)))).mono ?_);rintro e_ w ⟨rfl,hx_⟩;replace hm:=hm.ext hx_;clear hx_)|(go_at_call 228;(with_reducible refine(D1.out _).mono ?_);rintro e_ w ⟨rfl,hx_⟩;replace hm:=hm.ext hx_;clear hx_)|((((with_reducible show qSt);first|(refine zE hm ?_)));clear hm;intro w hm)|((first|((with_reducible show qAl);first|(refine zG hm ?_))|((with_reducible show qBx);first|(refine zH hm ?_)));clear hm;(first|(have hx_:=g1;clear hx_;(first|(have hx_:=g2;clear hx_;(first|(have hx_:=g3;clear hx_;intro gx_)|intro g3))|intro g2))|intro g1);intro w hm))
 replace hm:Own w0 w [⟨g3,191,[v64 (upK O 0).1,v64 (upK O 0).2]⟩,⟨g2,304,(tbE O 0).map v64⟩,⟨g1,132,h.map v8⟩]:=hm
 go_loopw [13] (fun i wr=>∃k:Nat,k≤4∧i= .int .i64 k∧Own w0 wr [⟨g3,191,[v64 (upK O k).1,v64 (upK O k).2]⟩,⟨g2,304,(tbE O k).map v64⟩,⟨g1,132,h.map v8⟩]) (fun i _=>4-(intOf i).toNat)
 case atStart=>exact⟨0,by omega,rfl,hm⟩
 case round =>
   obtain⟨k,hk,rfl,hm⟩:=hrel
   by_cases hlt:k<4
   · have hd : decide ((k:Int)<4)=true:=decide_eq_true (by omega)
     have hd2:(k:Int)<4:=by omega
     have EK:Hid (tbE O (k+1)=inE (tbE O k) (upK O k) (2^k) (2^k)):=hid rfl
     have UK:Hid (upK O (k+1)=upW (upK O k)):=hid rfl
     have lT:=tbE_length O k
     generalize tbE O k=T at*
     generalize upK O k=S at*
     obtain⟨Q,hQ⟩:∃Q,Q=2^k:=⟨_,rfl⟩
     have wp:wrap64 ((2:Int)^k)=(Q:Int):=by rw [hQ];exact wrap_pow k hlt
     have OR:=hid fun i (hi:i<Q)=>(show bits BinOp.or IntKind.i64 (Q:Int) (i:Int)=((Q+i:Nat):Int)from by subst hQ;exact or_pow k i hlt hi)
     have hQ8:Q≤8:=by
       have:2^k≤2^3:=Nat.pow_le_pow_right (by omega) (by omega)
       omega
     rw [←hQ]at EK
     clear hQ
     have LI:=hid fun i=>(show(inE T S Q i).length=32 from by rw [inE_length];exact lT)
     have I0:Hid (inE T S Q 0=T):=hid rfl
     go_wp2_with fail
     rw [wp]
     go_loopw [18] (fun i wr=>∃j:Nat,j≤Q∧i= .int .i64 j∧Own w0 wr [⟨g3,191,[v64 S.1,v64 S.2]⟩,⟨g2,304,(inE T S Q j).map v64⟩,⟨g1,132,h.map v8⟩]) (fun i _=>Q-(intOf i).toNat)
     case atStart=>exact⟨0,by omega,rfl,by rw [I0.out];exact hm⟩
     case round =>
       obtain⟨j,hj,rfl,hm⟩:=hrel
       by_cases hlj:j<Q
       · have hd3:decide ((j:Int)<(Q:Int))=true:=decide_eq_true (by omega)
         have hd4:(j:Int)<(Q:Int):=by omega
         have oq:=OR.out j hlj
         have lJ:=LI.out j
         have IJ:Hid (inE T S Q (j+1)=setE (inE T S Q j) (Q+j) (plusW (ent (inE T S Q j) j) S 1#64)):=hid rfl
         generalize inE T S Q j=V at*
         have j16:(j:Int)<16:=by omega
         have q16:(Q:Int)+(j:Int)<16:=by omega
         have q17:(0:Int)≤(Q:Int)+(j:Int):=by omega
         have q18:((Q:Int)+(j:Int)).toNat=Q+j:=by omega
         have TE:=hid (show((V.map v64).drop (j*2)).take 2=[v64 (nth V (2*j)),v64 (nth V (2*j+1))]from by rw [Nat.mul_comm];exact two_at V j (by omega))
         have SE:=hid (setE_cells V (Q+j) (plusW (ent V j) S 1#64) (by omega))
         go_wp2_with fail
         refine rgE 16 42 ?_
         simp only [tSC,tZe,dSC,dZe,mCo,mNi]
         repeat (first
             |(apply walk_is rfl rfl rfl;(intro wx hwx;(with_reducible apply gq_ldN (hm.ext hwx));infer_instance;exact rfl;(focus (repeat first|exact .hd|assumption|apply Has.tl);done);(exact TE.out);exact rfl);(simp only [Act.put,sIB,sCS,sCZ];rfl))
             | (apply walk_is rfl rfl rfl
                · (intro wx hwx;first|((with_reducible show qGl);first|(exact zK (hm.ext hwx)))|(go_simp;(try go_bits);first|exact gives_same|exact gives_skip|with_reducible exact gives_call (PL.out V S j wx)))
                · (simp only [Act.put,sIB,sCS,sCZ];rfl))
             | (apply walk_not rfl rfl rfl
                · (simp only [Act.put,sIB,sCS,sCZ];rfl)))
         intro wz hwz
         simp only [zCC,zNR]
         repeat (first|rw [fin_is]|(rw [fin_cons];intro _ _))
         rw [fin_nil]
         try (replace hm:=hm.ext hwz)
         simp only [Act.put,sIB,sCS,sCZ]
         generalize plusW (ent V j) S 1#64=X at*
         go_wp2_with (first|((with_reducible apply wq_stA hm);exact rfl;infer_instance;exact rfl;exact rfl;(focus (repeat first|exact .hd|assumption|apply Swap.tl);done);(exact SE.out);exact rfl;(exact(by rw [List.length_map];omega));(exact(by simp [one64]));clear hm;intro w hm))
         go_roundw
         case rel=>exact⟨j+1,by omega,by go_num,by rw [IJ.out];exact hm⟩
         case measure=>simp [intOf]<;>omega
       · obtain rfl:j=Q:=by omega
         have hd3:decide ((j:Int)<(j:Int))=false:=decide_eq_false (by omega)
         rw [←EK.out]at hm
         go_wp2_with (first|(go_at_call 230;(with_reducible refine(U1.out _ _).mono ?_);rintro e_ w ⟨rfl,hx_⟩;replace hm:=hm.ext hx_;clear hx_)|((with_reducible show qLd);first|(refine zB hm ?_))|((((with_reducible show qSt);first|(refine zE hm ?_)));clear hm;intro w hm))
         go_roundw
         case rel=>exact⟨k+1,by omega,by go_num,by rw [UK.out];exact hm⟩
         case measure=>simp [intOf]<;>omega
   · obtain rfl:k=4:=by omega
     have hd:decide (((4:Nat):Int)<4)=false:=decide_eq_false (by omega)
     go_wp2_with fail
     go_ret
     exact⟨g2,rfl,(show w0.heap.size≤(⟨g2,304,(tbE O 4).map v64⟩:Blk).g from hm.base (.tl .hd)),by rw [ET.out];exact hm.row (.tl .hd),hm.x⟩
def stC(gt:Nat)(v:List Byte):List Value:= .pointer (some ⟨gt,0,none⟩)::v.map v8
theorem stC_drop(gt:Nat)(v:List Byte)(h:v.length=16):((stC gt v).drop 1).take 16=v.map v8:=by
 rw [stC,dSC,dZe,List.take_of_length_le (by rw [List.length_map];omega)]
theorem vnew_any(h:List Byte)(hh:h.length=16)(w0:World):Calls Tryz.prog 222 #[A8 h] w0 fun e w'=>∃g gt,e= .returned (.pointer (some ⟨g,0,none⟩))∧w0.heap.size≤g∧w0.heap.size≤gt∧gt≠g∧Row w' g 301 (stC gt (zer 16))∧Row w' gt 304 ((mkT h).map v64)∧Ext w0 w':=by
 have hm:=Own.start w0
 have M1:=hid fun w=>rmake_tab h hh w
 have BV:=hid fun g w=>(by kernel_rfl:(Instr.build 301 #[(0, .pointer (some ⟨g,0,none⟩))]).run Tryz.prog w= .ok (.agg (stC g (zer 16)).toArray) w)
 have ha1:=Nat.le_of_eq hh
 have ha2:=Nat.le_of_eq hh.symm
 clear hh
 go_enter Tryz.func222,Tryz.ntmps222
 go_wp2_with (first|((with_reducible show qLd);first|(refine zB hm ?_))|((first|((with_reducible show qBx);first|(refine zH hm ?_)));clear hm;(first|(have hx_:=g1;clear hx_;(first|(have hx_:=g2;clear hx_;intro gx_)|intro g2))|intro g1);intro w hm))
 refine(M1.out _).mono ?_
 rintro e w ⟨gt,rfl,hg,hr,hx⟩
 replace hm:=hm.push hx hg hr
 clear hg hr hx
 have bv:=BV.out gt
 go_wp2_with (first|((first|((with_reducible show qBx);first|(refine zH hm ?_)));clear hm;(first|(have hx_:=g1;clear hx_;(first|(have hx_:=g2;clear hx_;intro gx_)|intro g2))|intro g1);intro w hm))
 go_ret
 have hn:=hm.2.1
 simp only [mCo,mNi,List.nodup_cons,List.mem_cons,not_or]at hn
 exact⟨g2,gt,rfl,(show w0.heap.size≤(⟨g2,301,stC gt (zer 16)⟩:Blk).g from hm.base .hd),(show w0.heap.size≤(⟨gt,304,(mkT h).map v64⟩:Blk).g from hm.base (.tl .hd)),fun e=>hn.1.1 e.symm,hm.row .hd,hm.row (.tl .hd),hm.x⟩
theorem vvalue_any(g gt:Nat)(v:List Byte)(hv:v.length=16)(w0:World)(h:Row w0 g 301 (stC gt v)):Gives Tryz.prog 224 #[.pointer (some ⟨g,0,none⟩)] w0 (A8 v):=by
 unfold Gives
 have hm:=Own.start w0
 have HR:=hid fun w (hx:Ext w0 w)=>row_ext h hx
 have HD:=hid (stC_drop gt v hv)
 have h1:=Nat.le_of_eq hv
 have h2:=Nat.le_of_eq hv.symm
 have HV:=hid hv
 clear h hv
 go_enter Tryz.func224,Tryz.ntmps224
 go_wp2_with (first|((with_reducible apply wq_rowN (HR.out _ hm.x));exact rfl;infer_instance;exact rfl;exact HD.out;exact(by rw [List.length_map];exact HV.out))|((((with_reducible show qSt);first|(refine zE hm ?_)));clear hm;intro w hm)|((first|((with_reducible show qAl);first|(refine zG hm ?_)));clear hm;intro gx_;intro w hm))
 refine rtO hm rfl rfl ⟨rfl,hm.x⟩
def vl16:List Byte:=putL 259#64 8++putL 0#64 8
end Go.Proofs.YtneacgpmjlocjaaGreatDoor
