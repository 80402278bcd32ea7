/-
  Texts of the program, walked, and plain ones. Conditions: those written in each theorem.
-/
import Derived.Test.YtneacgpmjlocjaaGreatDoorZTopText0
import Derived.Test.YtneacgpmjlocjaaGreatDoorZTopText24
import Derived.Test.YtneacgpmjlocjaaGreatDoorZTopText12
import Derived.Test.YtneacgpmjlocjaaGreatDoorZTopText5
import Derived.Test.YtneacgpmjlocjaaGreatDoorZTopText3
import Derived.Test.YtneacgpmjlocjaaGreatDoorZTopText15
import Derived.Test.YtneacgpmjlocjaaGreatDoorZTopText4
import Derived.ProofKit
import Derived.LaidMore
import Derived.OpenShut
import Derived.Stop.Joined
import Derived.Test.YtneacgpmjlocjaaGreatDoorRows
import Derived.Test.YtneacgpmjlocjaaGreatDoorZTopText6
set_option linter.unusedSimpArgs false
set_option linter.unusedVariables false
set_option maxHeartbeats 16000000
open Go.Lib (hid)
namespace Go.Proofs.YtneacgpmjlocjaaGreatDoor
open Go Go.RowKit
set_option maxRecDepth 100000
def right4(n:Nat):Bool:=(decide (n=16)||decide (n=24))||decide (n=32)
theorem right04_any(n:Nat)(w:World):Calls Tryz.prog 34 #[.int .i64 (n:Int)] w fun e w'=>e= .returned (.bool (right4 n))∧w=w':=by
 unfold right4
 have E1:((n:Int)==16)=decide (n=16):=by rw [Bool.eq_iff_iff];simp;omega
 have E2:((n:Int)==24)=decide (n=24):=by rw [Bool.eq_iff_iff];simp;omega
 have E3:((n:Int)==32)=decide (n=32):=by rw [Bool.eq_iff_iff];simp;omega
 by_cases h1:n=16
 · have e1:((n:Int)==16)=true:=by rw [E1];exact decide_eq_true h1
   rw [decide_eq_true h1]
   clear E1 E2 E3 h1
   go_enter Tryz.func34,Tryz.ntmps34
   go_wp2
   go_ret
   exact⟨rfl,rfl⟩
 · have e1:((n:Int)==16)=false:=by rw [E1];exact decide_eq_false h1
   rw [decide_eq_false h1]
   by_cases h2:n=24
   · have e2:((n:Int)==24)=true:=by rw [E2];exact decide_eq_true h2
     rw [decide_eq_true h2]
     clear E1 E2 E3 h1 h2
     go_enter Tryz.func34,Tryz.ntmps34
     go_wp2
     go_ret
     exact⟨rfl,rfl⟩
   · have e2:((n:Int)==24)=false:=by rw [E2];exact decide_eq_false h2
     rw [decide_eq_false h2]
     by_cases h3:n=32
     · have e3:((n:Int)==32)=true:=by rw [E3];exact decide_eq_true h3
       rw [decide_eq_true h3]
       clear E1 E2 E3 h1 h2 h3
       go_enter Tryz.func34,Tryz.ntmps34
       go_wp2
       go_ret
       exact⟨rfl,rfl⟩
     · have e3:((n:Int)==32)=false:=by rw [E3];exact decide_eq_false h3
       rw [decide_eq_false h3]
       clear E1 E2 E3 h1 h2 h3
       go_enter Tryz.func34,Tryz.ntmps34
       go_wp2
       go_ret
       exact⟨rfl,rfl⟩
theorem right4_iff(n:Nat):right4 n=true↔(n=16∨n=24∨n=32):=by simp [right4,or_assoc]
theorem wrong_any(al:Int)(key:List Byte)(p:Option Addr)(c:Nat)(w:World):Calls Tryz.prog 21 #[.int .i64 al, .slice p key.length c] w fun e w'=>∃n:Int,e= .returned (.int .i64 n)∧(n=0→SchOk al key)∧w=w':=by
 have R4:=hid (right04_any key.length w)
 have R5:=hid (right15_any key p c w)
 by_cases h1:al<1
 · have d1:decide (al<1)=true:=decide_eq_true h1
   go_enter Tryz.func21,Tryz.ntmps21
   go_wp2
   go_ret
   exact⟨8,rfl,(fun h=>by cases h),rfl⟩
 · have d1:decide (al<1)=false:=decide_eq_false h1
   by_cases h2:al>3
   · have d2:decide (al>3)=true:=decide_eq_true h2
     have d2':decide (3<al)=true:=decide_eq_true h2
     have d2'':3<al:=h2
     go_enter Tryz.func21,Tryz.ntmps21
     go_wp2
     go_ret
     exact⟨8,rfl,(fun h=>by cases h),rfl⟩
   · have h3:al=1∨al=2∨al=3:=by omega
     clear h1 h2 d1
     rcases h3 with rfl|rfl|rfl
     · by_cases h:key.length=32
       · have d3:((key.length:Int) !=32)=false:=by rw [h];rfl
         have HS:=hid (show SchOk 1 key from .inl ⟨rfl,h⟩)
         clear h
         go_enter Tryz.func21,Tryz.ntmps21
         go_wp2
         go_ret
         exact⟨0,rfl,fun _=>HS.out,rfl⟩
       · have d3:((key.length:Int) !=32)=true:=by simp;omega
         clear h
         go_enter Tryz.func21,Tryz.ntmps21
         go_wp2
         go_ret
         exact⟨2,rfl,(fun h=>by cases h),rfl⟩
     · have HS:=hid (fun h=>(show SchOk 2 key from .inr (.inl ⟨rfl,(right4_iff _).1 h⟩)))
       generalize right4 key.length=r at R4 HS
       cases r
       · go_enter Tryz.func21,Tryz.ntmps21
         go_wp2_with (go_at_call 34;(with_reducible refine(R4.out).mono ?_);rintro e_ w_ ⟨rfl,rfl⟩)
         go_ret
         exact⟨2,rfl,(fun h=>by cases h),rfl⟩
       · go_enter Tryz.func21,Tryz.ntmps21
         go_wp2_with (go_at_call 34;(with_reducible refine(R4.out).mono ?_);rintro e_ w_ ⟨rfl,rfl⟩)
         go_ret
         exact⟨0,rfl,(fun _=>by first|exact HS.out rfl|exact HS.out trivial|exact HS.out),rfl⟩
     · have HS:=hid (fun (h:rightL key=true)=>(show SchOk 3 key from .inr (.inr ⟨rfl,by simpa [rightL]using h⟩)))
       generalize rightL key=r at R5 HS
       cases r
       · go_enter Tryz.func21,Tryz.ntmps21
         go_wp2_with (go_at_call 35;(with_reducible refine(R5.out).mono ?_);rintro e_ w_ ⟨rfl,rfl⟩)
         go_ret
         exact⟨2,rfl,(fun h=>by cases h),rfl⟩
       · go_enter Tryz.func21,Tryz.ntmps21
         go_wp2_with (go_at_call 35;(with_reducible refine(R5.out).mono ?_);rintro e_ w_ ⟨rfl,rfl⟩)
         go_ret
         exact⟨0,rfl,(fun _=>by first|exact HS.out rfl|exact HS.out trivial|exact HS.out),rfl⟩
theorem lmay_any(al:Int)(key:List Byte)(p:Option Addr)(c:Nat)(w0:World):Calls Tryz.prog 5 #[.agg #[.int .i64 al, .slice p key.length c]] w0 fun e w'=>∃b:Bool,e= .returned (.bool b)∧(b=true→SchOk al key)∧Ext w0 w':=by
 have hm:=Own.start w0
 have WR:=hid fun w=>wrong_any al key p c w
 by_cases h:key.length≤200
 · have d1:decide ((key.length:Int)≤200)=true:=decide_eq_true (by omega)
   have d2:(key.length:Int)≤200:=by omega
   clear h
   go_enter Tryz.func5,Tryz.ntmps5
   go_wp2_with (first|((with_reducible apply wq_boxN (cs:=[.int .i64 al, .slice p key.length c]) hm);exact rfl;exact rfl;clear hm;intro gl w hm)|((with_reducible show qLd);first|(refine zC hm ?_)))
   refine(WR.out _).mono ?_
   rintro e_ w_ ⟨n,rfl,hn,rfl⟩
   by_cases h0:n=0
   · have d3:(n==0)=true:=by rw [h0];rfl
     have HN:=hid (hn h0)
     clear h0 hn
     go_wp2_with fail
     go_ret
     exact⟨true,rfl,fun _=>HN.out,hm.x⟩
   · have d3:(n==0)=false:=by rw [beq_eq_false_iff_ne];exact h0
     clear h0 hn
     go_wp2_with fail
     go_ret
     exact⟨false,rfl,(fun h=>by cases h),hm.x⟩
 · have d1:decide ((key.length:Int)≤200)=false:=decide_eq_false (by omega)
   have d2:¬(key.length:Int)≤200:=by omega
   clear h
   go_enter Tryz.func5,Tryz.ntmps5
   go_wp2_with (first|((with_reducible apply wq_boxN (cs:=[.int .i64 al, .slice p key.length c]) hm);exact rfl;exact rfl;clear hm;intro gl w hm)|((with_reducible show qLd);first|(refine zC hm ?_)))
   go_ret
   first|exact⟨false,rfl,(fun h=>by cases h),hm.x⟩|exact .inl ⟨rfl,hm.x⟩
theorem toptab_new(w0:World)(hc:Coef w0):Calls Tryz.prog 23 #[] w0 fun e w'=>∃g gb,e= .returned (.pointer (some ⟨g,0,none⟩))∧TabR g gb w'∧Ext w0 w':=by
 have HC:=hid hc
 clear hc
 go_enter Tryz.func23,Tryz.ntmps23
 go_wp2_with fail
 refine(make_new _).mono ?_
 rintro e w1 ⟨gb,rfl,hgb,hr,hx⟩
 go_wp2_with fail
 refine(tnew_new gb w1 hr (HC.out.ext hx)).mono ?_
 rintro e w2 ⟨g,rfl,hg,hr2,hx2⟩
 go_wp2
 go_ret
 exact⟨g,gb,rfl,⟨hr2,row_ext hr hx2⟩,hx.trans hx2⟩
theorem tbox_0(g gb:Nat)(w:World)(h:TabR g gb w):Calls Tryz.prog 30 #[.pointer (some ⟨g,0,none⟩), .int .u8 0] w fun e w'=>e= .returned (.int .u8 99)∧w=w':=by
 have:=tbox_any g gb 0#8 w h.1 h.2
 rwa [show v8 (bxTo 0#8)= .int .u8 99 from by kernel_rfl]at this
theorem tbox_1(g gb:Nat)(w:World)(h:TabR g gb w):Calls Tryz.prog 30 #[.pointer (some ⟨g,0,none⟩), .int .u8 1] w fun e w'=>e= .returned (.int .u8 124)∧w=w':=by
 have:=tbox_any g gb 1#8 w h.1 h.2
 rwa [show v8 (bxTo 1#8)= .int .u8 124 from by kernel_rfl]at this
theorem awakeT(w0:World)(hc:Coef w0):Gives Tryz.prog 17 #[] w0 (.bool true):=by
 unfold Gives
 have TT:=hid (toptab_new w0 hc)
 clear hc
 go_enter Tryz.func17,Tryz.ntmps17
 go_wp2_with fail
 refine(TT.out).mono ?_
 rintro e w ⟨g,gb,rfl,ht,hx⟩
 have T0:=hid (tbox_0 g gb w ht)
 have T1:=hid (tbox_1 g gb w ht)
 clear ht
 go_wp2_with fail
 refine(T0.out).mono ?_
 rintro e_ w_ ⟨rfl,rfl⟩
 go_wp2_with fail
 refine(T1.out).mono ?_
 rintro e_ w_ ⟨rfl,rfl⟩
 go_wp2_with fail
 go_ret
 exact⟨rfl,hx⟩
theorem nturned_any(gc n:Nat)(al:Int)(key m:List Byte)(fo:BitVec 64)(hl:m.length=n+16)(hn:n≤284)(p:Option Addr)(c:Nat)(hc:n+16≤c)(w0:World)(hh:CipR w0 gc al key)(hr:RdB w0 p m):
   Calls Tryz.prog 25 #[.func (.func 15) #[.pointer (some ⟨gc,0,none⟩)] #[],v64 fo, .slice p (n+16) c] w0 fun e w'=>∃px cx,e= .returned (.tuple #[.slice px (n+16) cx, .int .i64 0])∧n+16≤cx∧RdB w' px (wideG false al key (putL fo 8) m)∧Ext w0 w':=by
 have hm:=Own.start w0
 have PL:=hid fun w=>putlong_any' fo w
 have lT:=putL_length fo 8
 have EN:=hid fun (w:World)(hx:Ext w0 w)(q:Option Addr)(hq:RdB w q (putL fo 8))=>wEncipher gc n al key (putL fo 8) m (by omega) hl hn q p 8 c (by omega) hc w (hh.ext hx) hq (hr.ext hx)
 rw [lT]at EN
 obtain⟨X,hX⟩:=exq (wideG false al key (putL fo 8) m)
 rw [←hX]at EN⊢
 obtain⟨T,hT⟩:=exq (putL fo 8)
 rw [←hT]at EN PL lT
 obtain⟨K,hK⟩:=exq (n+16)
 rw [←hK]at EN⊢
 have t1:=Nat.le_of_eq lT
 have t2:=Nat.le_of_eq lT.symm
 clear hX hT hK hl hn hc hh hr lT
 go_enter Tryz.func25,Tryz.ntmps25
 go_wp2_with (first|(go_at_call 11;(with_reducible refine(PL.out _).mono ?_);rintro e_ w ⟨rfl,hx_⟩;replace hm:=hm.ext hx_;clear hx_)|((((with_reducible show qSt);first|(refine zE hm ?_)));clear hm;intro w hm)|((first|((with_reducible show qAl);first|(refine zG hm ?_)));clear hm;(first|(have hx_:=g1;clear hx_;intro gx_)|intro g1);intro w hm))
 refine(EN.out w hm.x _ (hm.rdB (g:=g1) (l:=T) (by repeat (first|exact Has.hd|assumption|apply Has.tl)))).mono ?_
 rintro e_ w ⟨px,cx,rfl,hcx,hpx,hx_⟩
 replace hm:=hm.ext hx_
 clear hx_
 go_wp2_with fail
 go_ret2
 exact⟨px,cx,rfl,hcx,hpx,hm.x⟩
theorem nenc_any(g gc:Nat)(al pad:Int)(key S:List Byte)(fo:BitVec 64)(hp:PadOk pad)(hz:NoZ S)(h1:1≤S.length)(h2:S.length≤255)(w0:World)(hn:Row w0 g 62 [.pointer (some ⟨gc,0,none⟩), .int .i64 pad])(hh:CipR w0 gc al key):
   Gives Tryz.prog 10 #[.pointer (some ⟨g,0,none⟩),v64 fo, .string (bstr S)] w0 (.tuple #[.string (bstr (sxE (wideG false al key (putL fo 8) (padL S pad)))), .int .i64 0]):=by
 unfold Gives
 have hm:=Own.start w0
 have R1:=hid fun (w:World)(hx:Ext w0 w)=>row_ext hn hx
 have PD:=hid (padded27_any S pad hp hz h1 h2)
 have lP:=padL_length S pad hp h1 h2
 obtain⟨r1,r2,r3⟩:=nroomN_le S.length pad hp h1 h2
 obtain⟨n,hR⟩:∃n,nroomN S.length pad=n+16:=⟨nroomN S.length pad-16,by omega⟩
 rw [hR]at PD lP r3
 have TU:=hid fun (w:World)(hx:Ext w0 w)(q:Option Addr)(hq:RdB w q (padL S pad))=>nturned_any gc n al key (padL S pad) fo lP (by omega) q (n+16) (Nat.le_refl _) w (hh.ext hx) hq
 have lE:=wideG_length false al key (putL fo 8) (padL S pad) (by omega)
 rw [lP]at lE
 obtain⟨X,hX⟩:=exq (wideG false al key (putL fo 8) (padL S pad))
 rw [←hX]at TU lE⊢
 obtain⟨P,hP⟩:=exq (padL S pad)
 rw [←hP]at TU PD
 have SE:=hid fun (w:World)(q:Option Addr)(d:Nat)(hd:n+16≤d)(hq:RdB w q X)=>(show Gives Tryz.prog 16 #[.slice q (n+16) d] w (.string (bstr (sxE X)))from by
   have:=sxenc_any X q d (by omega) (by omega) w hq
   rwa [lE]at this)
 obtain⟨TX,hTX⟩:=exq (bstr (sxE X))
 rw [←hTX]at SE⊢
 obtain⟨K,hK⟩:=exq (n+16)
 rw [←hK]at TU PD SE
 clear hX hP hTX hK hR lP lE r1 r2 r3 hp hz h1 h2 hn hh
 go_enter Tryz.func10,Tryz.ntmps10
 go_wp2_with (first|((with_reducible apply wq_row1 (R1.out _ hm.x));exact rfl;infer_instance;exact rfl;exact rfl))
 refine(PD.out _).mono ?_
 rintro e_ w ⟨g1,rfl,hm1⟩
 replace hm:=hm.join hm1
 clear hm1
 go_wp2_with (first|((with_reducible apply wq_row1 (R1.out _ hm.x));exact rfl;infer_instance;exact rfl;exact rfl))
 refine(TU.out _ hm.x _ (hm.rdB (g:=g1) (l:=P) (.hd))).mono ?_
 rintro e_ w ⟨px,cx,rfl,hcx,hpx,hx_⟩
 replace hm:=hm.ext hx_
 have SX:=hid (SE.out w px cx hcx hpx)
 clear hx_ hpx
 go_wp2_with fail
 refine(SX.out).mono ?_
 rintro e_ w ⟨rfl,hx_⟩
 replace hm:=hm.ext hx_
 clear hx_
 go_wp2_with fail
 go_ret2
 exact⟨rfl,hm.x⟩
theorem pad27_any(pad:Int)(w:World):Calls Tryz.prog 6 #[.int .i64 pad] w fun e w'=>∃b:Bool,e= .returned (.bool b)∧(b=true→PadOk pad)∧w=w':=by
 by_cases h1:pad=16
 · subst h1
   go_enter Tryz.func6,Tryz.ntmps6
   go_wp2
   go_ret
   exact⟨true,rfl,fun _=> .inl rfl,rfl⟩
 · have d1:(pad==16)=false:=by rw [beq_eq_false_iff_ne];exact h1
   by_cases h2:pad=32
   · subst h2
     go_enter Tryz.func6,Tryz.ntmps6
     go_wp2
     go_ret
     exact⟨true,rfl,fun _=> .inr (.inl rfl),rfl⟩
   · have d2:(pad==32)=false:=by rw [beq_eq_false_iff_ne];exact h2
     by_cases h3:pad=64
     · subst h3
       go_enter Tryz.func6,Tryz.ntmps6
       go_wp2
       go_ret
       exact⟨true,rfl,fun _=> .inr (.inr rfl),rfl⟩
     · have d3:(pad==64)=false:=by rw [beq_eq_false_iff_ne];exact h3
       clear h1 h2 h3
       go_enter Tryz.func6,Tryz.ntmps6
       go_wp2
       go_ret
       first|exact⟨false,rfl,(fun h=>by cases h),rfl⟩|exact .inl ⟨rfl,rfl⟩
theorem name27_any(S:List Byte)(hS:S.length≤maxLen)(w0:World):Calls Tryz.prog 7 #[.string (bstr S)] w0 fun e w'=>∃b:Bool,e= .returned (.bool b)∧(b=true→NoZ S∧1≤S.length∧S.length≤255)∧w0=w':=by
 have sz:=bstr_size S
 have mx:maxLen≤9223372036854775807:=by decide
 obtain⟨N,hN⟩:=exq (S.length)
 have HN:=hid hN
 rw [←hN]at sz hS
 have NB:(N:Int)≤9223372036854775807:=by omega
 clear hN mx
 go_enter Tryz.func7,Tryz.ntmps7
 go_wp2_with fail
 go_loopw [3] (fun i wr=>∃k:Nat,k≤N∧i= .int .i64 (k:Int)∧(∀j,j<k→nth S j≠0#8)∧w0=wr) (fun i _=>N-(intOf i).toNat)
 case atStart=>exact⟨0,by omega,rfl,fun j hj=>by omega,rfl⟩
 case round=>
   obtain⟨k,hk,rfl,hz,rfl⟩:=hrel
   have HZ:=hid hz
   clear hz
   by_cases hlt:k<N
   · have hd1:decide ((k:Int)<(N:Int))=true:=decide_eq_true (by omega)
     have hd2:(k:Int)<(N:Int):=by omega
     have KL:=hid (show k<S.length from by rw [←HN.out];exact hlt)
     by_cases hb:nth S k=0#8
     · have hbb:(nth S k==0#8)=true:=by rw [hb];rfl
       clear hb
       go_wp2_with (first|((with_reducible apply wq_idxS (l:=S) (k:=k) Tryz.underlying9);exact rfl;exact rfl;exact rfl;exact rfl;exact KL.out))
       go_ret
       exact⟨false,rfl,(fun h=>by cases h),rfl⟩
     · have hbb:(nth S k==0#8)=false:=by rw [beq_eq_false_iff_ne];exact hb
       have HB:=hid hb
       clear hb
       go_wp2_with (first|((with_reducible apply wq_idxS (l:=S) (k:=k) Tryz.underlying9);exact rfl;exact rfl;exact rfl;exact rfl;exact KL.out))
       go_roundw
       case rel=>exact⟨k+1,by omega,by go_num,(fun j hj=>by
         by_cases e:j=k
         · subst e;exact HB.out
         · exact HZ.out j (by omega)),by first|rfl|trivial⟩
       case measure=>simp [intOf]<;>omega
   · obtain rfl:k=N:=by omega
     have hd1:decide ((k:Int)<(k:Int))=false:=decide_eq_false (by omega)
     have HA:=hid (show NoZ S from fun b hb=>by
       obtain⟨i,hi,rfl⟩:=List.getElem_of_mem hb
       have:=HZ.out i (by rw [HN.out];exact hi)
       rwa [nth_get hi]at this)
     by_cases h1:1≤k∧k≤255
     · have g1:decide ((k:Int)≥1)=true:=decide_eq_true (by omega)
       have g2:decide ((1:Int)≤(k:Int))=true:=decide_eq_true (by omega)
       have g3:decide ((k:Int)≤255)=true:=decide_eq_true (by omega)
       go_wp2_with fail
       go_ret
       exact⟨true,rfl,fun _=>⟨HA.out,by rw [←HN.out];exact h1.1,by rw [←HN.out];exact h1.2⟩,rfl⟩
     · by_cases h2:1≤k
       · have g1:decide ((k:Int)≥1)=true:=decide_eq_true (by omega)
         have g2:decide ((1:Int)≤(k:Int))=true:=decide_eq_true (by omega)
         have g3:decide ((k:Int)≤255)=false:=decide_eq_false (by omega)
         go_wp2_with fail
         go_ret
         exact⟨false,rfl,(fun h=>by cases h),rfl⟩
       · have g1:decide ((k:Int)≥1)=false:=decide_eq_false (by omega)
         have g2:decide ((1:Int)≤(k:Int))=false:=decide_eq_false (by omega)
         go_wp2_with fail
         go_ret
         exact⟨false,rfl,(fun h=>by cases h),rfl⟩
def CipT(al:Int)(key:List Byte):Slot:=fun v w=>∃g,v= .tuple #[.pointer (some ⟨g,0,none⟩), .int .i64 0]∧CipR w g al key
theorem CipT.stable(al:Int)(key:List Byte):Stable (CipT al key):=fun _ _ _ ⟨g,h1,h2⟩ hx=>⟨g,h1,h2.ext hx⟩
def CipV(al:Int)(key:List Byte):Slot:=fun v w=>∃g,v= .pointer (some ⟨g,0,none⟩)∧CipR w g al key
theorem CipV.stable(al:Int)(key:List Byte):Stable (CipV al key):=fun _ _ _ ⟨g,h1,h2⟩ hx=>⟨g,h1,h2.ext hx⟩
def TabU:Slot:=fun v w=>∃g gb,v= .pointer (some ⟨g,0,none⟩)∧TabR g gb w
theorem TabU.stable:Stable TabU:=fun _ _ _ ⟨g,gb,h1,h2⟩ hx=>⟨g,gb,h1,h2.ext hx⟩
theorem topcipher_any(al:Int)(key:List Byte)(hk:SchOk al key)(p:Option Addr)(c:Nat)(hc:key.length≤c)(w0:World)(hcf:Coef w0)(hcb:CoefB w0)(hr:RdB w0 p key):
   Calls Tryz.prog 8 #[.agg #[.int .i64 al, .slice p key.length c]] w0 fun e w'=>∃g,e= .returned (.tuple #[.pointer (some ⟨g,0,none⟩), .bool true])∧CipR w' g al key∧Ext w0 w':=by
 have hm:=Own.start w0
 have TT:=hid fun w (hx:Ext w0 w)=>(show GivesR Tryz.prog 23 #[] w TabU from(toptab_new w (hcf.ext hx)).mono fun _ _ ⟨g,gb,h1,h2,h3⟩=>⟨_,h1,⟨g,gb,rfl,h2⟩,h3⟩)
 have NW:=hid fun (gt gb:Nat)(w:World)(hx:Ext w0 w)(ht:TabR gt gb w)=>(show GivesR Tryz.prog 22 #[.pointer (some ⟨gt,0,none⟩), .int .i64 al, .slice p key.length c] w (CipT al key)from
   (wnew_any al gt gb key hk p c hc w (hr.ext hx) ht (hcb.ext hx)).mono fun e w' ⟨g1,L,h1,h2,h3,h4⟩=>⟨_,h1,⟨g1,rfl,h4 w' (fun b hb=>h3.rows b hb) (ht.ext h3.x)⟩,h3.x⟩)
 obtain⟨TL,hTL⟩:=exq (key.length)
 rw [←hTL]at NW⊢
 clear hcf hcb hr hc hk hTL
 go_enter Tryz.func8,Tryz.ntmps8
 go_wp2_with (first|((with_reducible apply wq_boxN (cs:=[.int .i64 al, .slice p TL c]) hm);exact rfl;exact rfl;clear hm;intro gl w hm))
 have hx0:=hm.x
 refine region_new 10 (fun w'=>Ext _ w') 22 (by kernel_rfl) (by kernel_rfl) rfl (fun _ _ h k=>h.trans k) (drew_ext _) ?_
 simp only [tSC,tZe,dSC,dZe,mCo,mNi]
 repeat (first
     |(apply walk_some TabU 7 TabU.stable rfl rfl rfl rfl;(intro wx hwx;go_simp;with_reducible exact gives_callR (TT.out wx (hx0.trans hwx))))
     | (apply walk_from_some (T:=[(7,TabU)]) (CipT al key) 12 (CipT.stable _ _) rfl rfl rfl
        · (intro wx hwx;simp only [withS];(rintro x_ ⟨gt_,gb_,rfl,ht_⟩);refine⟨rfl, ?_⟩;go_simp;with_reducible exact gives_callR (NW.out _ _ wx (hx0.trans hwx) ht_)))
     | (apply walk_from_some (T:=[(12,CipT al key)]) (CipT al key) 6 (CipT.stable _ _) rfl rfl rfl
        · (intro wx hwx;simp only [withS];(rintro x_ ⟨g_,rfl,h_⟩);refine⟨rfl, ?_⟩;go_simp;exact gives_val (Ext.refl _) ⟨g_,rfl,h_⟩))
     | (apply walk_from_some (T:=[(6,CipT al key)]) (CipV al key) 13 (CipV.stable _ _) rfl rfl rfl
        · (intro wx hwx;simp only [withS];(rintro x_ ⟨g_,rfl,h_⟩);refine⟨rfl, ?_⟩;go_simp;exact gives_val (V:=CipV al key) (Ext.refl _) ⟨g_,rfl,h_⟩))
     | (apply walk_from (T:=[(6,CipT al key)]) rfl rfl
        · (intro wx hwx;simp only [withS];(rintro x_ ⟨g_,rfl,h_⟩);refine⟨rfl, ?_⟩;go_simp;exact gives_same)
        · (simp only [Act.put,sIB,sCS,sCZ];rfl))
     | (apply walk_from_some (T:=[(13,CipV al key)]) (CipV al key) 4 (CipV.stable _ _) rfl rfl rfl
        · (intro wx hwx;simp only [withS];(rintro x_ ⟨g_,rfl,h_⟩);refine⟨rfl, ?_⟩;go_simp;exact gives_val (V:=CipV al key) (Ext.refl _) ⟨g_,rfl,h_⟩))
     | (apply walk_is rfl rfl rfl
        · (intro wx hwx;first|((with_reducible show qGl);first|(exact zL (hm.ext hwx)))|(go_simp;(try go_bits);first|exact gives_same|exact gives_skip))
        · (simp only [Act.put,sIB,sCS,sCZ];rfl))
     | (apply walk_not rfl rfl rfl
        · (simp only [Act.put,sIB,sCS,sCZ];rfl)))
 intro wz hwz
 simp only [zCC,zNR]
 repeat rw [fin_is]
 rw [fin_cons];intro x7 hx7
 repeat rw [fin_is]
 rw [fin_cons];intro x12 hx12
 repeat rw [fin_is]
 rw [fin_cons];intro x6 hx6
 repeat rw [fin_is]
 rw [fin_cons];intro x13 hx13
 repeat rw [fin_is]
 rw [fin_cons];intro x4 hx4
 repeat rw [fin_is]
 rw [fin_nil];intro hap
 simp only [Act.put,sIB,sCS,sCZ]at hap⊢
 obtain⟨g,rfl,hC⟩:=hx4
 have HC:=hid hC
 have hx1:=hx0.trans hwz
 clear hm hx0 hap hx7 hx12 hx6 hx13 hC TT NW
 go_wp2_with fail
 go_ret2
 exact⟨g,rfl,HC.out,hx1⟩
def jump2(l m:Nat)(J K:Act→World→Prop)(Q:Exit→Act→World→Prop):Exit→Act→World→Prop
 | .goto x,a,w=>(x=l∧J a w)∨(x=m∧K a w)
 |e,a,w=>Q e a w
theorem scope_out {P:Program}{c:Code}{k:List Item}{b:Frame}{cs:List Frame}{Q R:Exit→Act→World→Prop}{S:Machine}(next:∀x a w,R (.goto x) a w→(∀k',gotoIn x (.inScope c::k)=some k'→Steps P S (lone (b.at a k') cs w))→∃e a' w',Q e a' w'∧Arrives P S b k cs e a' w')(same:∀e a w,(∀x,e≠ .goto x)→R e a w→Q e a w)(h:∃e a' w',R e a' w'∧Arrives P S b (.inScope c::k) cs e a' w'):∃e a' w',Q e a' w'∧Arrives P S b k cs e a' w':=by
 obtain⟨e,a1,w1,hq,harr⟩:=h
 cases e with
 |normal=>exact⟨_,a1,w1,same _ _ _ (by rintro _ ⟨⟩) hq,Steps.trans harr (.one step_inScope)⟩
 |exit id=>exact⟨_,a1,w1,same _ _ _ (by rintro _ ⟨⟩) hq,fun k' hk=>harr k' (by simp [exitTo,hk])⟩
 |goto x=>exact next x a1 w1 hq harr
 |ret=>exact⟨_,a1,w1,same _ _ _ (by rintro _ ⟨⟩) hq,harr⟩
 |panic ch=>exact⟨_,a1,w1,same _ _ _ (by rintro _ ⟨⟩) hq,harr⟩
 |outgrown=>exact⟨_,a1,w1,same _ _ _ (by rintro _ ⟨⟩) hq,harr⟩
theorem jump2_same {l m:Nat}{J K:Act→World→Prop}{Q:Exit→Act→World→Prop}:∀e a w,(∀x,e≠ .goto x)→jump2 l m J K Q e a w→Q e a w:=by
 intro e a w hne h
 cases e with
 |goto x=>exact absurd rfl (hne x)
 |_=>exact h
theorem wp_scope_two {P:Program}{c r1 r2:Code}{Q:Exit→Act→World→Prop}{a:Act}{w:World}(l m:Nat)(J K:Act→World→Prop)(μ :Act→World→Nat)(h1:findLabel c l=some (Code.skip.seq r1))(h2:findLabel c m=some (Code.skip.seq r2))
   (p1:∀a w,J a w→r1.wp P (jump2 l m (fun a' w'=>J a' w'∧ μ a' w'< μ a w) K Q) a w)
   (p2:∀a w,K a w→r2.wp P (jump2 l m (fun _ _=>False) (fun _ _=>False) Q) a w)
   (first:(∀a w,J a w→r1.wp P (jump2 l m J K Q) a w)→c.wp P (jump2 l m J K Q) a w):(Code.scope c).wp P Q a w:=by
 intro b k cs
 have g1:gotoIn l (.inScope c::k)=some (.code (Code.skip.seq r1):: .inScope c::k):=by simp [gotoIn,h1]
 have g2:gotoIn m (.inScope c::k)=some (.code (Code.skip.seq r2):: .inScope c::k):=by simp [gotoIn,h2]
 have K2:∀a w,K a w→∃e a' w',Q e a' w'∧Arrives P (lone (b.at a (.code (Code.skip.seq r2):: .inScope c::k)) cs w) b k cs e a' w':=fun a w h=>
   scope_out (c:=c) (fun x a' w' hx _=>by rcases hx with ⟨_,h⟩|⟨_,h⟩<;>exact(show False from h).elim) jump2_same (wp_seq (wp_skip (p2 a w h)) b (.inScope c::k) cs)
 have K1:∀n a w,μ a w=n→J a w→∃e a' w',Q e a' w'∧Arrives P (lone (b.at a (.code (Code.skip.seq r1):: .inScope c::k)) cs w) b k cs e a' w':=by
   intro n
   induction n using Nat.strongRecOn with
   | _ n ih=>
     intro a w hn h
     refine scope_out (c:=c) (fun x a' w' hx harr=> ?_) jump2_same (wp_seq (wp_skip (p1 a w h)) b (.inScope c::k) cs)
     rcases hx with ⟨rfl,hJ,hlt⟩|⟨rfl,hK⟩
     · obtain⟨e2,a2,w2,q2,r2⟩:=ih _ (by omega) a' w' rfl hJ
       exact⟨e2,a2,w2,q2, .of_steps (harr _ g1) r2⟩
     · obtain⟨e2,a2,w2,q2,r2⟩:=K2 a' w' hK
       exact⟨e2,a2,w2,q2, .of_steps (harr _ g2) r2⟩
 have hf:=first fun a w h=>Code.wp_mono (fun e a' w' he=>by
   cases e with
   | goto x=>
     rcases he with ⟨e1,h,_⟩|h
     · exact .inl ⟨e1,h⟩
     · exact .inr h
   |_=>exact he) (p1 a w h)
 have hs:=hf b (.inScope c::k) cs
 have hz:∃e a' w',Q e a' w'∧Arrives P (lone (b.at a (.code c:: .inScope c::k)) cs w) b k cs e a' w':=by
   refine scope_out (c:=c) (fun x a' w' hx harr=> ?_) jump2_same hs
   rcases hx with ⟨rfl,hJ⟩|⟨rfl,hK⟩
   · obtain⟨e2,a2,w2,q2,r2⟩:=K1 _ a' w' rfl hJ
     exact⟨e2,a2,w2,q2, .of_steps (harr _ g1) r2⟩
   · obtain⟨e2,a2,w2,q2,r2⟩:=K2 a' w' hK
     exact⟨e2,a2,w2,q2, .of_steps (harr _ g2) r2⟩
 obtain⟨e,a1,w1,q,r⟩:=hz
 exact⟨e,a1,w1,q, .of_steps (.one step_scope) r⟩
theorem six_ofNat(b:List Byte)(j:Nat):BitVec.ofNat 8 (six b j).toNat=sixB b j:=by
 rw [sixB];apply BitVec.eq_of_toNat_eq;simp
theorem snum_at(b:List Byte)(j:Nat)(h:j<sxN b.length)(w:World):Calls Tryz.prog 26 #[v8 (nth (sxE b) j)] w fun e w'=>e= .returned (.tuple #[v8 (sixB b j), .bool true])∧w=w':=by
 have:=snum_any (six b j).toNat (six_lt b j) w
 rwa [six_ofNat,←sxE_nth b j h]at this
theorem take_one(b:List Byte)(k:Nat)(h:k<b.length):b.take k++[nth b k]=b.take (k+1):=by
 rw [List.take_succ_eq_append_getElem h,nth_get h]
theorem sxdec_any(b:List Byte)(hl:b.length≤1000)(w0:World):Calls Tryz.prog 12 #[.string (bstr (sxE b))] w0 fun e w'=>∃p c,e= .returned (.tuple #[.slice p b.length c, .int .i64 0])∧b.length≤c∧RdB w' p b∧Ext w0 w':=by
 have hm:=Own.start w0
 have SN:=hid (snum_at b)
 have D0:=hid (dec0 b)
 have D1:=hid (dec1 b)
 have D2:=hid (dec2 b)
 have N1:=hid (end1 b)
 have N2:=hid (end2 b)
 have TK:=hid (take_one b)
 have TA:=hid (List.take_of_length_le (l:=b) (i:=b.length) (Nat.le_refl _))
 obtain⟨N,hN⟩:=exq (b.length)
 have HN:=hid hN
 rw [←hN]at SN TK TA hl⊢
 obtain⟨SE,hSE⟩:=exq (sxE b)
 have bsz:=bstr_size SE
 have LSE:=hid (show SE.length=sxN N from by rw [hSE,sxE_length,HN.out])
 rw [LSE.out]at bsz
 rw [←hSE]at SN⊢
 obtain⟨M,hM⟩:=exq (sxN N)
 have HM:=hid hM
 rw [←hM]at bsz SN LSE
 have hM2:M≤2000:=by rw [hM];unfold sxN;split<;>omega
 obtain⟨R,hR⟩:∃R:Nat,R=M/4*3+2:=⟨_,rfl⟩
 have q0:(M:Int).tdiv 4*3+2=(R:Int):=by rw [Int.tdiv_eq_ediv_of_nonneg (by omega),hR];omega
 have q1:(M:Int)/4*3+2=(R:Int):=by rw [hR];omega
 have hR1:R≤2000:=by omega
 clear hN hSE hM hR
 go_enter Tryz.func12,Tryz.ntmps12
 go_wp2_with fail
 refine wp_scope_two 0 2 (fun a_ w_=>∃(q o d:Nat)(i0:Int)(r:Option Addr)(X:List Blk)(u1 u4 u5 u6 u9 u10 u11 u12 u13 u14 u15 u16 u17 u18 u19 u20 u21 u22 u23 u24 u25 u26 u27 u28 u29 u30 u31 u32 u33 u34 u35 u36 u37 u38 u39 u40 u41 u42 u43 u44 u45 u46 u47 u48 u49 u50 u51 u52 u53 u54 u55 u56 u57 u58 u59 u60 u61 u62 u63 u64 u65 u66 u67 u68 u69 u70 u71 u72 u73 u74 u75 u76 u77 u78 u79 u80 u81 u82 u83 u84 u85 u86 u87 u88 u89 u90 u91 u92 u93 u94 u95 u96 u97 u98 u99 u100 u101 u102 u103 u104:Value),a_={tmps:= #[(.string (bstr SE)),u1,(.slice none 0 0),(.int .i64 0),u4,u5,u6,(.int .i64 i0),(.slice r o d),u9,u10,u11,u12,u13,u14,u15,u16,u17,u18,u19,u20,u21,u22,u23,u24,u25,u26,u27,u28,u29,u30,u31,u32,u33,u34,u35,u36,u37,u38,u39,u40,u41,u42,u43,u44,u45,u46,u47,u48,u49,u50,u51,u52,u53,u54,u55,u56,u57,u58,u59,u60,u61,u62,u63,u64,u65,u66,u67,u68,u69,u70,u71,u72,u73,u74,u75,u76,u77,u78,u79,u80,u81,u82,u83,u84,u85,u86,u87,u88,u89,u90,u91,u92,u93,u94,u95,u96,u97,u98,u99,u100,u101,u102,u103,u104],defers:=[]}∧i0=4*(q:Int)∧o=3*q∧3*q≤N∧SlO X 5 1 (.slice r o d) o ((b.take (3*q)).map v8)∧Own w0 w_ (X++[])) (fun a_ w_=>∃(o d:Nat)(r:Option Addr)(X:List Blk)(u1 u4 u6 u7 u9 u10 u11 u12 u13 u14 u15 u16 u17 u18 u19 u20 u21 u22 u23 u24 u25 u26 u27 u28 u29 u30 u31 u32 u33 u34 u35 u36 u37 u38 u39 u40 u41 u42 u43 u44 u45 u46 u47 u48 u49 u50 u51 u52 u53 u54 u55 u56 u57 u58 u59 u60 u61 u62 u63 u64 u65 u66 u67 u68 u69 u70 u71 u72 u73 u74 u75 u76 u77 u78 u79 u80 u81 u82 u83 u84 u85 u86 u87 u88 u89 u90 u91 u92 u93 u94 u95 u96 u97 u98 u99 u100 u101 u102 u103 u104:Value),a_={tmps:= #[(.string (bstr SE)),u1,(.slice none 0 0),(.int .i64 0),u4,(v8 0#8),u6,u7,(.slice r o d),u9,u10,u11,u12,u13,u14,u15,u16,u17,u18,u19,u20,u21,u22,u23,u24,u25,u26,u27,u28,u29,u30,u31,u32,u33,u34,u35,u36,u37,u38,u39,u40,u41,u42,u43,u44,u45,u46,u47,u48,u49,u50,u51,u52,u53,u54,u55,u56,u57,u58,u59,u60,u61,u62,u63,u64,u65,u66,u67,u68,u69,u70,u71,u72,u73,u74,u75,u76,u77,u78,u79,u80,u81,u82,u83,u84,u85,u86,u87,u88,u89,u90,u91,u92,u93,u94,u95,u96,u97,u98,u99,u100,u101,u102,u103,u104],defers:=[]}∧o=N∧SlO X 5 1 (.slice r o d) o (b.map v8)∧Own w0 w_ (X++[])) (fun a_ _=>4*N+4-(intOf (a_.tmps.getD 7 undef)).toNat) rfl rfl ?_ ?_ ?_
 · clear hm
   have key_:∀(P_:Act→World→Prop),(∀(w_:World)(q o d:Nat)(i0:Int)(r:Option Addr)(X:List Blk)(u1 u4 u5 u6 u9 u10 u11 u12 u13 u14 u15 u16 u17 u18 u19 u20 u21 u22 u23 u24 u25 u26 u27 u28 u29 u30 u31 u32 u33 u34 u35 u36 u37 u38 u39 u40 u41 u42 u43 u44 u45 u46 u47 u48 u49 u50 u51 u52 u53 u54 u55 u56 u57 u58 u59 u60 u61 u62 u63 u64 u65 u66 u67 u68 u69 u70 u71 u72 u73 u74 u75 u76 u77 u78 u79 u80 u81 u82 u83 u84 u85 u86 u87 u88 u89 u90 u91 u92 u93 u94 u95 u96 u97 u98 u99 u100 u101 u102 u103 u104:Value),i0=4*(q:Int)∧o=3*q∧3*q≤N∧SlO X 5 1 (.slice r o d) o ((b.take (3*q)).map v8)∧Own w0 w_ (X++[])→P_ {tmps:= #[(.string (bstr SE)),u1,(.slice none 0 0),(.int .i64 0),u4,u5,u6,(.int .i64 i0),(.slice r o d),u9,u10,u11,u12,u13,u14,u15,u16,u17,u18,u19,u20,u21,u22,u23,u24,u25,u26,u27,u28,u29,u30,u31,u32,u33,u34,u35,u36,u37,u38,u39,u40,u41,u42,u43,u44,u45,u46,u47,u48,u49,u50,u51,u52,u53,u54,u55,u56,u57,u58,u59,u60,u61,u62,u63,u64,u65,u66,u67,u68,u69,u70,u71,u72,u73,u74,u75,u76,u77,u78,u79,u80,u81,u82,u83,u84,u85,u86,u87,u88,u89,u90,u91,u92,u93,u94,u95,u96,u97,u98,u99,u100,u101,u102,u103,u104],defers:=[]} w_)→∀(a_:Act)(w_:World),(∃(q o d:Nat)(i0:Int)(r:Option Addr)(X:List Blk)(u1 u4 u5 u6 u9 u10 u11 u12 u13 u14 u15 u16 u17 u18 u19 u20 u21 u22 u23 u24 u25 u26 u27 u28 u29 u30 u31 u32 u33 u34 u35 u36 u37 u38 u39 u40 u41 u42 u43 u44 u45 u46 u47 u48 u49 u50 u51 u52 u53 u54 u55 u56 u57 u58 u59 u60 u61 u62 u63 u64 u65 u66 u67 u68 u69 u70 u71 u72 u73 u74 u75 u76 u77 u78 u79 u80 u81 u82 u83 u84 u85 u86 u87 u88 u89 u90 u91 u92 u93 u94 u95 u96 u97 u98 u99 u100 u101 u102 u103 u104:Value),a_={tmps:= #[(.string (bstr SE)),u1,(.slice none 0 0),(.int .i64 0),u4,u5,u6,(.int .i64 i0),(.slice r o d),u9,u10,u11,u12,u13,u14,u15,u16,u17,u18,u19,u20,u21,u22,u23,u24,u25,u26,u27,u28,u29,u30,u31,u32,u33,u34,u35,u36,u37,u38,u39,u40,u41,u42,u43,u44,u45,u46,u47,u48,u49,u50,u51,u52,u53,u54,u55,u56,u57,u58,u59,u60,u61,u62,u63,u64,u65,u66,u67,u68,u69,u70,u71,u72,u73,u74,u75,u76,u77,u78,u79,u80,u81,u82,u83,u84,u85,u86,u87,u88,u89,u90,u91,u92,u93,u94,u95,u96,u97,u98,u99,u100,u101,u102,u103,u104],defers:=[]}∧i0=4*(q:Int)∧o=3*q∧3*q≤N∧SlO X 5 1 (.slice r o d) o ((b.take (3*q)).map v8)∧Own w0 w_ (X++[]))→P_ a_ w_:=
     fun P_ h_ a_ w_ z=>z.elim fun q z=>z.elim fun o z=>z.elim fun d z=>z.elim fun i0 z=>z.elim fun r z=>z.elim fun X z=>z.elim fun u1 z=>z.elim fun u4 z=>z.elim fun u5 z=>z.elim fun u6 z=>z.elim fun u9 z=>z.elim fun u10 z=>z.elim fun u11 z=>z.elim fun u12 z=>z.elim fun u13 z=>z.elim fun u14 z=>z.elim fun u15 z=>z.elim fun u16 z=>z.elim fun u17 z=>z.elim fun u18 z=>z.elim fun u19 z=>z.elim fun u20 z=>z.elim fun u21 z=>z.elim fun u22 z=>z.elim fun u23 z=>z.elim fun u24 z=>z.elim fun u25 z=>z.elim fun u26 z=>z.elim fun u27 z=>z.elim fun u28 z=>z.elim fun u29 z=>z.elim fun u30 z=>z.elim fun u31 z=>z.elim fun u32 z=>z.elim fun u33 z=>z.elim fun u34 z=>z.elim fun u35 z=>z.elim fun u36 z=>z.elim fun u37 z=>z.elim fun u38 z=>z.elim fun u39 z=>z.elim fun u40 z=>z.elim fun u41 z=>z.elim fun u42 z=>z.elim fun u43 z=>z.elim fun u44 z=>z.elim fun u45 z=>z.elim fun u46 z=>z.elim fun u47 z=>z.elim fun u48 z=>z.elim fun u49 z=>z.elim fun u50 z=>z.elim fun u51 z=>z.elim fun u52 z=>z.elim fun u53 z=>z.elim fun u54 z=>z.elim fun u55 z=>z.elim fun u56 z=>z.elim fun u57 z=>z.elim fun u58 z=>z.elim fun u59 z=>z.elim fun u60 z=>z.elim fun u61 z=>z.elim fun u62 z=>z.elim fun u63 z=>z.elim fun u64 z=>z.elim fun u65 z=>z.elim fun u66 z=>z.elim fun u67 z=>z.elim fun u68 z=>z.elim fun u69 z=>z.elim fun u70 z=>z.elim fun u71 z=>z.elim fun u72 z=>z.elim fun u73 z=>z.elim fun u74 z=>z.elim fun u75 z=>z.elim fun u76 z=>z.elim fun u77 z=>z.elim fun u78 z=>z.elim fun u79 z=>z.elim fun u80 z=>z.elim fun u81 z=>z.elim fun u82 z=>z.elim fun u83 z=>z.elim fun u84 z=>z.elim fun u85 z=>z.elim fun u86 z=>z.elim fun u87 z=>z.elim fun u88 z=>z.elim fun u89 z=>z.elim fun u90 z=>z.elim fun u91 z=>z.elim fun u92 z=>z.elim fun u93 z=>z.elim fun u94 z=>z.elim fun u95 z=>z.elim fun u96 z=>z.elim fun u97 z=>z.elim fun u98 z=>z.elim fun u99 z=>z.elim fun u100 z=>z.elim fun u101 z=>z.elim fun u102 z=>z.elim fun u103 z=>z.elim fun u104 z=>Eq.subst (motive:=fun z_=>P_ z_ w_) z.1.symm (h_ w_ q o d i0 r X u1 u4 u5 u6 u9 u10 u11 u12 u13 u14 u15 u16 u17 u18 u19 u20 u21 u22 u23 u24 u25 u26 u27 u28 u29 u30 u31 u32 u33 u34 u35 u36 u37 u38 u39 u40 u41 u42 u43 u44 u45 u46 u47 u48 u49 u50 u51 u52 u53 u54 u55 u56 u57 u58 u59 u60 u61 u62 u63 u64 u65 u66 u67 u68 u69 u70 u71 u72 u73 u74 u75 u76 u77 u78 u79 u80 u81 u82 u83 u84 u85 u86 u87 u88 u89 u90 u91 u92 u93 u94 u95 u96 u97 u98 u99 u100 u101 u102 u103 u104 z.2)
   refine key_ _ ?_
   clear key_
   intro w q o d i0 r X u1 u4 u5 u6 u9 u10 u11 u12 u13 u14 u15 u16 u17 u18 u19 u20 u21 u22 u23 u24 u25 u26 u27 u28 u29 u30 u31 u32 u33 u34 u35 u36 u37 u38 u39 u40 u41 u42 u43 u44 u45 u46 u47 u48 u49 u50 u51 u52 u53 u54 u55 u56 u57 u58 u59 u60 u61 u62 u63 u64 u65 u66 u67 u68 u69 u70 u71 u72 u73 u74 u75 u76 u77 u78 u79 u80 u81 u82 u83 u84 u85 u86 u87 u88 u89 u90 u91 u92 u93 u94 u95 u96 u97 u98 u99 u100 u101 u102 u103 u104
   rintro ⟨h0,ho,hq,hs,hm⟩
   have HO:=hid hs
   have h4q:4*q≤M:=by rw [HM.out];unfold sxN;split<;>omega
   have FIT:=hid fun (z:Nat)(hz:z≤2000)=>(show(z+1)*(1+1)≤140737488355328 from by omega)
   clear hs
   by_cases c0:3*q=N
   · have e0:4*q=M:=by rw [HM.out];unfold sxN;split<;>omega
     have e1:(i0==(M:Int))=true:=by rw [beq_iff_eq];omega
     have hrd:=slo_rdZ HO.out hm
     have ee:b.take (3*q)=b:=by rw [c0];exact TA.out
     rw [ee]at hrd
     obtain⟨_,hoc⟩:=slo_bytes HO.out hm
     have HRD:=hid hrd
     have HOC:=hid hoc
     have OE:=hid (show o=N from by omega)
     clear hrd hoc e0 ee ho h0 c0 hq h4q
     go_wp2_with fail
     simp only [jump2]
     go_ret2
     exact⟨r,d,by rw [←OE.out];rfl,by rw [←OE.out];exact HOC.out.2,HRD.out,hm.x⟩
   · have c0':3*q<N:=by omega
     have l2:4*q+2≤M:=by rw [HM.out];unfold sxN;split<;>omega
     obtain⟨i1,h1⟩:∃i:Int,i=i0+1:=⟨_,rfl⟩
     obtain⟨i2,h2⟩:∃i:Int,i=i1+1:=⟨_,rfl⟩
     obtain⟨i3,h3⟩:∃i:Int,i=i2+1:=⟨_,rfl⟩
     obtain⟨i4,h4⟩:∃i:Int,i=i3+1:=⟨_,rfl⟩
     have I0:=hid (show i0=((4*q:Nat):Int)from by omega)
     have I1:=hid (show i1=((4*q+1:Nat):Int)from by omega)
     have I2:=hid (show i2=((4*q+2:Nat):Int)from by omega)
     have I3:=hid (show i3=((4*q+3:Nat):Int)from by omega)
     have I4:=hid (show i4=4*((q+1:Nat):Int)from by omega)
     have n0:(i0==(M:Int))=false:=by rw [beq_eq_false_iff_ne];omega
     have n1:(i1==(M:Int))=false:=by rw [beq_eq_false_iff_ne];omega
     have w4: -9223372036854775808≤i0∧i4≤9223372036854775807:=by omega
     have r0:0≤i0∧i3≤3000:=by omega
     have s0:=h1.symm
     have s1:=h2.symm
     have s2:=h3.symm
     have s3:=h4.symm
     have SA:=hid (SN.out (4*q) (by omega))
     have SB:=hid (SN.out (4*q+1) (by omega))
     obtain⟨X0,x0⟩:=exq (sixB b (4*q))
     obtain⟨X1,x1⟩:=exq (sixB b (4*q+1))
     obtain⟨X2,x2⟩:=exq (sixB b (4*q+2))
     obtain⟨X3,x3⟩:=exq (sixB b (4*q+3))
     obtain⟨B0,b0⟩:=exq (nth b (3*q))
     obtain⟨B1,b1⟩:=exq (nth b (3*q+1))
     obtain⟨B2,b2⟩:=exq (nth b (3*q+2))
     have u0:X0<<<2|||X1>>>4=B0:=by rw [x0,x1,b0];exact D0.out q
     have u1:X1<<<4|||X2>>>2=B1:=by rw [x1,x2,b1];exact D1.out q
     have u2:X2<<<6|||X3=B2:=by rw [x2,x3,b2];exact D2.out q
     have Z1:=hid fun (h:N≤3*q+1)=>(show X1<<<4=0#8 from by rw [x1];exact N1.out q (by rw [←HN.out];exact h))
     have Z2:=hid fun (h:N≤3*q+2)=>(show X2<<<6=0#8 from by rw [x2];exact N2.out q (by rw [←HN.out];exact h))
     have K0:=hid (show(b.take (3*q)).map v8++[B0].map v8=(b.take (3*q+1)).map v8 from by rw [←List.map_append,b0,TK.out _ (by omega)])
     have K1:=hid fun (h:3*q+1<N)=>(show(b.take (3*q+1)).map v8++[B1].map v8=(b.take (3*q+2)).map v8 from by rw [←List.map_append,b1,TK.out _ h])
     have K2:=hid fun (h:3*q+2<N)=>(show(b.take (3*q+2)).map v8++[B2].map v8=(b.take (3*q+3)).map v8 from by rw [←List.map_append,b2,TK.out _ h])
     rw [←x0]at SA
     rw [←x1]at SB
     have SC:=hid fun h=>(show _ from x2 ▸ SN.out (4*q+2) h)
     have SD:=hid fun h=>(show _ from x3 ▸ SN.out (4*q+3) h)
     have HOQ:=hid ho
     have oB:o≤1000:=by omega
     have l0:4*q<SE.length:=by rw [LSE.out];omega
     have l1:4*q+1<SE.length:=by rw [LSE.out];omega
     have L0:=hid l0
     have L1:=hid l1
     clear x0 x1 x2 x3 b0 b1 b2 h0 h1 h2 h3 h4 l0 l1 SN ho
     by_cases c1:N=3*q+1
     · skip
       have e2:(i2==(M:Int))=true:=by
         have:4*q+2=M:=by rw [HM.out];unfold sxN;split<;>omega
         rw [beq_iff_eq,I2.out];omega
       have z1:=Z1.out (by omega)
       go_wp2_with (first|((with_reducible apply wq_idxS (l:=SE) (k:=4*q) Tryz.underlying9);exact rfl;exact rfl;exact rfl;exact I0.out;exact L0.out)|((with_reducible apply wq_idxS (l:=SE) (k:=4*q+1) Tryz.underlying9);exact rfl;exact rfl;exact rfl;exact I1.out;exact L1.out)|(go_at_call 26;(with_reducible refine(SA.out _).mono ?_);rintro e_ w_ ⟨rfl,rfl⟩)|(go_at_call 26;(with_reducible refine(SB.out _).mono ?_);rintro e_ w_ ⟨rfl,rfl⟩)|((with_reducible apply wq_bs1c (bs1_b B0) hm);exact rfl;exact rfl;clear hm;intro gz0 w hm)|((with_reducible show wpList _ _ _ (Oper.mk _ (Op.call _) _ _ _ _::_) _ _);refine wplO_app (M:=X) (R:=_) (ds:=[B0].map v8) (hm.perm (List.perm_middle.symm)) HO.out rfl rfl rfl rfl Tryz.underlying22 rfl (cells_b (hm.rdB (g:=gz0) (l:=[B0]) (by repeat (first|exact Has.hd|assumption|apply Has.tl|apply Has.app)))) (one_map _) (FIT.out _ (by omega)) ?_;clear hm;intro v1 w Y1 hm hs1;obtain⟨p_v1,c_v1,rfl⟩:=hs1.form;replace hm:=hm.perm (List.perm_middle);replace hm:=hm.drop))
       go_step3
       exact .inr ⟨rfl,⟨_,_,_,_,_,_,_,_,_,_,_,_,_,_,_,_,_,_,_,_,_,_,_,_,_,_,_,_,_,_,_,_,_,_,_,_,_,_,_,_,_,_,_,_,_,_,_,_,_,_,_,_,_,_,_,_,_,_,_,_,_,_,_,_,_,_,_,_,_,_,_,_,_,_,_,_,_,_,_,_,_,_,_,_,_,_,_,_,_,_,_,_,_,_,_,_,_,_,_,_,_,_,_,_,rfl,⟨by rw [HOQ.out];omega,(show SlO Y1 5 1 _ _ (b.map v8)from by have h:=hs1;rw [K0.out,show 3*q+1=N from by omega,TA.out]at h;exact h),hm⟩⟩⟩
     · by_cases c2:N=3*q+2
       · skip
         have e2:(i3==(M:Int))=true:=by
           have:4*q+3=M:=by rw [HM.out];unfold sxN;split<;>omega
           rw [beq_iff_eq,I3.out];omega
         have l3:4*q+3≤M:=by rw [HM.out];unfold sxN;split<;>omega
         have n2:(i2==(M:Int))=false:=by rw [beq_eq_false_iff_ne,I2.out];omega
         have L2:=hid (show 4*q+2<SE.length from by rw [LSE.out];omega)
         have SC:=hid (SC.out (by omega))
         have z2:=Z2.out (by omega)
         go_wp2_with (first|((with_reducible apply wq_idxS (l:=SE) (k:=4*q) Tryz.underlying9);exact rfl;exact rfl;exact rfl;exact I0.out;exact L0.out)|((with_reducible apply wq_idxS (l:=SE) (k:=4*q+1) Tryz.underlying9);exact rfl;exact rfl;exact rfl;exact I1.out;exact L1.out)|((with_reducible apply wq_idxS (l:=SE) (k:=4*q+2) Tryz.underlying9);exact rfl;exact rfl;exact rfl;exact I2.out;exact L2.out)|(go_at_call 26;(with_reducible refine(SA.out _).mono ?_);rintro e_ w_ ⟨rfl,rfl⟩)|(go_at_call 26;(with_reducible refine(SB.out _).mono ?_);rintro e_ w_ ⟨rfl,rfl⟩)|(go_at_call 26;(with_reducible refine(SC.out _).mono ?_);rintro e_ w_ ⟨rfl,rfl⟩)|((with_reducible apply wq_bs1c (bs1_b B0) hm);exact rfl;exact rfl;clear hm;intro gz0 w hm)|((with_reducible show wpList _ _ _ (Oper.mk _ (Op.call _) _ _ _ _::_) _ _);refine wplO_app (M:=X) (R:=_) (ds:=[B0].map v8) (hm.perm (List.perm_middle.symm)) HO.out rfl rfl rfl rfl Tryz.underlying22 rfl (cells_b (hm.rdB (g:=gz0) (l:=[B0]) (by repeat (first|exact Has.hd|assumption|apply Has.tl|apply Has.app)))) (one_map _) (FIT.out _ (by omega)) ?_;clear hm;intro v1 w Y1 hm hs1;obtain⟨p_v1,c_v1,rfl⟩:=hs1.form;replace hm:=hm.perm (List.perm_middle);replace hm:=hm.drop)|((with_reducible apply wq_bs1c (bs1_b B1) hm);exact rfl;exact rfl;clear hm;intro gz1 w hm)|((with_reducible show wpList _ _ _ (Oper.mk _ (Op.call _) _ _ _ _::_) _ _);refine wplO_app (M:=Y1) (R:=_) (ds:=[B1].map v8) (hm.perm (List.perm_middle.symm)) hs1 rfl rfl rfl rfl Tryz.underlying22 rfl (cells_b (hm.rdB (g:=gz1) (l:=[B1]) (by repeat (first|exact Has.hd|assumption|apply Has.tl|apply Has.app)))) (one_map _) (FIT.out _ (by omega)) ?_;clear hm;intro v2 w Y2 hm hs2;obtain⟨p_v2,c_v2,rfl⟩:=hs2.form;replace hm:=hm.perm (List.perm_middle);replace hm:=hm.drop))
         go_step3
         exact .inr ⟨rfl,⟨_,_,_,_,_,_,_,_,_,_,_,_,_,_,_,_,_,_,_,_,_,_,_,_,_,_,_,_,_,_,_,_,_,_,_,_,_,_,_,_,_,_,_,_,_,_,_,_,_,_,_,_,_,_,_,_,_,_,_,_,_,_,_,_,_,_,_,_,_,_,_,_,_,_,_,_,_,_,_,_,_,_,_,_,_,_,_,_,_,_,_,_,_,_,_,_,_,_,_,_,_,_,_,_,rfl,⟨by rw [HOQ.out];omega,(show SlO Y2 5 1 _ _ (b.map v8)from by have h:=hs2;rw [K0.out,K1.out (by omega),show 3*q+2=N from by omega,TA.out]at h;exact h),hm⟩⟩⟩
       · skip
         have l3:4*q+3≤M:=by rw [HM.out];unfold sxN;split<;>omega
         have n2:(i2==(M:Int))=false:=by rw [beq_eq_false_iff_ne,I2.out];omega
         have L2:=hid (show 4*q+2<SE.length from by rw [LSE.out];omega)
         have SC:=hid (SC.out (by omega))
         have l4:4*q+4≤M:=by rw [HM.out];unfold sxN;split<;>omega
         have n3:(i3==(M:Int))=false:=by rw [beq_eq_false_iff_ne,I3.out];omega
         have L3:=hid (show 4*q+3<SE.length from by rw [LSE.out];omega)
         have SD:=hid (SD.out (by omega))
         go_wp2_with (first|((with_reducible apply wq_idxS (l:=SE) (k:=4*q) Tryz.underlying9);exact rfl;exact rfl;exact rfl;exact I0.out;exact L0.out)|((with_reducible apply wq_idxS (l:=SE) (k:=4*q+1) Tryz.underlying9);exact rfl;exact rfl;exact rfl;exact I1.out;exact L1.out)|((with_reducible apply wq_idxS (l:=SE) (k:=4*q+2) Tryz.underlying9);exact rfl;exact rfl;exact rfl;exact I2.out;exact L2.out)|((with_reducible apply wq_idxS (l:=SE) (k:=4*q+3) Tryz.underlying9);exact rfl;exact rfl;exact rfl;exact I3.out;exact L3.out)|(go_at_call 26;(with_reducible refine(SA.out _).mono ?_);rintro e_ w_ ⟨rfl,rfl⟩)|(go_at_call 26;(with_reducible refine(SB.out _).mono ?_);rintro e_ w_ ⟨rfl,rfl⟩)|(go_at_call 26;(with_reducible refine(SC.out _).mono ?_);rintro e_ w_ ⟨rfl,rfl⟩)|(go_at_call 26;(with_reducible refine(SD.out _).mono ?_);rintro e_ w_ ⟨rfl,rfl⟩)|((with_reducible apply wq_bs1c (bs1_b B0) hm);exact rfl;exact rfl;clear hm;intro gz0 w hm)|((with_reducible show wpList _ _ _ (Oper.mk _ (Op.call _) _ _ _ _::_) _ _);refine wplO_app (M:=X) (R:=_) (ds:=[B0].map v8) (hm.perm (List.perm_middle.symm)) HO.out rfl rfl rfl rfl Tryz.underlying22 rfl (cells_b (hm.rdB (g:=gz0) (l:=[B0]) (by repeat (first|exact Has.hd|assumption|apply Has.tl|apply Has.app)))) (one_map _) (FIT.out _ (by omega)) ?_;clear hm;intro v1 w Y1 hm hs1;obtain⟨p_v1,c_v1,rfl⟩:=hs1.form;replace hm:=hm.perm (List.perm_middle);replace hm:=hm.drop)|((with_reducible apply wq_bs1c (bs1_b B1) hm);exact rfl;exact rfl;clear hm;intro gz1 w hm)|((with_reducible show wpList _ _ _ (Oper.mk _ (Op.call _) _ _ _ _::_) _ _);refine wplO_app (M:=Y1) (R:=_) (ds:=[B1].map v8) (hm.perm (List.perm_middle.symm)) hs1 rfl rfl rfl rfl Tryz.underlying22 rfl (cells_b (hm.rdB (g:=gz1) (l:=[B1]) (by repeat (first|exact Has.hd|assumption|apply Has.tl|apply Has.app)))) (one_map _) (FIT.out _ (by omega)) ?_;clear hm;intro v2 w Y2 hm hs2;obtain⟨p_v2,c_v2,rfl⟩:=hs2.form;replace hm:=hm.perm (List.perm_middle);replace hm:=hm.drop)|((with_reducible apply wq_bs1c (bs1_b B2) hm);exact rfl;exact rfl;clear hm;intro gz2 w hm)|((with_reducible show wpList _ _ _ (Oper.mk _ (Op.call _) _ _ _ _::_) _ _);refine wplO_app (M:=Y2) (R:=_) (ds:=[B2].map v8) (hm.perm (List.perm_middle.symm)) hs2 rfl rfl rfl rfl Tryz.underlying22 rfl (cells_b (hm.rdB (g:=gz2) (l:=[B2]) (by repeat (first|exact Has.hd|assumption|apply Has.tl|apply Has.app)))) (one_map _) (FIT.out _ (by omega)) ?_;clear hm;intro v3 w Y3 hm hs3;obtain⟨p_v3,c_v3,rfl⟩:=hs3.form;replace hm:=hm.perm (List.perm_middle);replace hm:=hm.drop))
         go_step3
         exact .inl ⟨rfl,⟨_,_,_,_,_,_,_,_,_,_,_,_,_,_,_,_,_,_,_,_,_,_,_,_,_,_,_,_,_,_,_,_,_,_,_,_,_,_,_,_,_,_,_,_,_,_,_,_,_,_,_,_,_,_,_,_,_,_,_,_,_,_,_,_,_,_,_,_,_,_,_,_,_,_,_,_,_,_,_,_,_,_,_,_,_,_,_,_,_,_,_,_,_,_,_,_,_,_,_,_,_,_,_,_,_,_,rfl,⟨I4.out,by rw [HOQ.out];omega,(show 3*(q+1)≤N from by omega),(show SlO Y3 5 1 _ _ ((b.take (3*(q+1))).map v8)from by have h:=hs3;rw [K0.out,K1.out (by omega),K2.out (by omega)]at h;exact h),hm⟩⟩,(show 4*N+4-i4.toNat<4*N+4-i0.toNat from by rw [I4.out,I0.out];omega)⟩
 · clear hm
   have key_:∀(P_:Act→World→Prop),(∀(w_:World)(o d:Nat)(r:Option Addr)(X:List Blk)(u1 u4 u6 u7 u9 u10 u11 u12 u13 u14 u15 u16 u17 u18 u19 u20 u21 u22 u23 u24 u25 u26 u27 u28 u29 u30 u31 u32 u33 u34 u35 u36 u37 u38 u39 u40 u41 u42 u43 u44 u45 u46 u47 u48 u49 u50 u51 u52 u53 u54 u55 u56 u57 u58 u59 u60 u61 u62 u63 u64 u65 u66 u67 u68 u69 u70 u71 u72 u73 u74 u75 u76 u77 u78 u79 u80 u81 u82 u83 u84 u85 u86 u87 u88 u89 u90 u91 u92 u93 u94 u95 u96 u97 u98 u99 u100 u101 u102 u103 u104:Value),o=N∧SlO X 5 1 (.slice r o d) o (b.map v8)∧Own w0 w_ (X++[])→P_ {tmps:= #[(.string (bstr SE)),u1,(.slice none 0 0),(.int .i64 0),u4,(v8 0#8),u6,u7,(.slice r o d),u9,u10,u11,u12,u13,u14,u15,u16,u17,u18,u19,u20,u21,u22,u23,u24,u25,u26,u27,u28,u29,u30,u31,u32,u33,u34,u35,u36,u37,u38,u39,u40,u41,u42,u43,u44,u45,u46,u47,u48,u49,u50,u51,u52,u53,u54,u55,u56,u57,u58,u59,u60,u61,u62,u63,u64,u65,u66,u67,u68,u69,u70,u71,u72,u73,u74,u75,u76,u77,u78,u79,u80,u81,u82,u83,u84,u85,u86,u87,u88,u89,u90,u91,u92,u93,u94,u95,u96,u97,u98,u99,u100,u101,u102,u103,u104],defers:=[]} w_)→∀(a_:Act)(w_:World),(∃(o d:Nat)(r:Option Addr)(X:List Blk)(u1 u4 u6 u7 u9 u10 u11 u12 u13 u14 u15 u16 u17 u18 u19 u20 u21 u22 u23 u24 u25 u26 u27 u28 u29 u30 u31 u32 u33 u34 u35 u36 u37 u38 u39 u40 u41 u42 u43 u44 u45 u46 u47 u48 u49 u50 u51 u52 u53 u54 u55 u56 u57 u58 u59 u60 u61 u62 u63 u64 u65 u66 u67 u68 u69 u70 u71 u72 u73 u74 u75 u76 u77 u78 u79 u80 u81 u82 u83 u84 u85 u86 u87 u88 u89 u90 u91 u92 u93 u94 u95 u96 u97 u98 u99 u100 u101 u102 u103 u104:Value),a_={tmps:= #[(.string (bstr SE)),u1,(.slice none 0 0),(.int .i64 0),u4,(v8 0#8),u6,u7,(.slice r o d),u9,u10,u11,u12,u13,u14,u15,u16,u17,u18,u19,u20,u21,u22,u23,u24,u25,u26,u27,u28,u29,u30,u31,u32,u33,u34,u35,u36,u37,u38,u39,u40,u41,u42,u43,u44,u45,u46,u47,u48,u49,u50,u51,u52,u53,u54,u55,u56,u57,u58,u59,u60,u61,u62,u63,u64,u65,u66,u67,u68,u69,u70,u71,u72,u73,u74,u75,u76,u77,u78,u79,u80,u81,u82,u83,u84,u85,u86,u87,u88,u89,u90,u91,u92,u93,u94,u95,u96,u97,u98,u99,u100,u101,u102,u103,u104],defers:=[]}∧o=N∧SlO X 5 1 (.slice r o d) o (b.map v8)∧Own w0 w_ (X++[]))→P_ a_ w_:=
     fun P_ h_ a_ w_ z=>z.elim fun o z=>z.elim fun d z=>z.elim fun r z=>z.elim fun X z=>z.elim fun u1 z=>z.elim fun u4 z=>z.elim fun u6 z=>z.elim fun u7 z=>z.elim fun u9 z=>z.elim fun u10 z=>z.elim fun u11 z=>z.elim fun u12 z=>z.elim fun u13 z=>z.elim fun u14 z=>z.elim fun u15 z=>z.elim fun u16 z=>z.elim fun u17 z=>z.elim fun u18 z=>z.elim fun u19 z=>z.elim fun u20 z=>z.elim fun u21 z=>z.elim fun u22 z=>z.elim fun u23 z=>z.elim fun u24 z=>z.elim fun u25 z=>z.elim fun u26 z=>z.elim fun u27 z=>z.elim fun u28 z=>z.elim fun u29 z=>z.elim fun u30 z=>z.elim fun u31 z=>z.elim fun u32 z=>z.elim fun u33 z=>z.elim fun u34 z=>z.elim fun u35 z=>z.elim fun u36 z=>z.elim fun u37 z=>z.elim fun u38 z=>z.elim fun u39 z=>z.elim fun u40 z=>z.elim fun u41 z=>z.elim fun u42 z=>z.elim fun u43 z=>z.elim fun u44 z=>z.elim fun u45 z=>z.elim fun u46 z=>z.elim fun u47 z=>z.elim fun u48 z=>z.elim fun u49 z=>z.elim fun u50 z=>z.elim fun u51 z=>z.elim fun u52 z=>z.elim fun u53 z=>z.elim fun u54 z=>z.elim fun u55 z=>z.elim fun u56 z=>z.elim fun u57 z=>z.elim fun u58 z=>z.elim fun u59 z=>z.elim fun u60 z=>z.elim fun u61 z=>z.elim fun u62 z=>z.elim fun u63 z=>z.elim fun u64 z=>z.elim fun u65 z=>z.elim fun u66 z=>z.elim fun u67 z=>z.elim fun u68 z=>z.elim fun u69 z=>z.elim fun u70 z=>z.elim fun u71 z=>z.elim fun u72 z=>z.elim fun u73 z=>z.elim fun u74 z=>z.elim fun u75 z=>z.elim fun u76 z=>z.elim fun u77 z=>z.elim fun u78 z=>z.elim fun u79 z=>z.elim fun u80 z=>z.elim fun u81 z=>z.elim fun u82 z=>z.elim fun u83 z=>z.elim fun u84 z=>z.elim fun u85 z=>z.elim fun u86 z=>z.elim fun u87 z=>z.elim fun u88 z=>z.elim fun u89 z=>z.elim fun u90 z=>z.elim fun u91 z=>z.elim fun u92 z=>z.elim fun u93 z=>z.elim fun u94 z=>z.elim fun u95 z=>z.elim fun u96 z=>z.elim fun u97 z=>z.elim fun u98 z=>z.elim fun u99 z=>z.elim fun u100 z=>z.elim fun u101 z=>z.elim fun u102 z=>z.elim fun u103 z=>z.elim fun u104 z=>Eq.subst (motive:=fun z_=>P_ z_ w_) z.1.symm (h_ w_ o d r X u1 u4 u6 u7 u9 u10 u11 u12 u13 u14 u15 u16 u17 u18 u19 u20 u21 u22 u23 u24 u25 u26 u27 u28 u29 u30 u31 u32 u33 u34 u35 u36 u37 u38 u39 u40 u41 u42 u43 u44 u45 u46 u47 u48 u49 u50 u51 u52 u53 u54 u55 u56 u57 u58 u59 u60 u61 u62 u63 u64 u65 u66 u67 u68 u69 u70 u71 u72 u73 u74 u75 u76 u77 u78 u79 u80 u81 u82 u83 u84 u85 u86 u87 u88 u89 u90 u91 u92 u93 u94 u95 u96 u97 u98 u99 u100 u101 u102 u103 u104 z.2)
   refine key_ _ ?_
   clear key_
   intro w o d r X u1 u4 u6 u7 u9 u10 u11 u12 u13 u14 u15 u16 u17 u18 u19 u20 u21 u22 u23 u24 u25 u26 u27 u28 u29 u30 u31 u32 u33 u34 u35 u36 u37 u38 u39 u40 u41 u42 u43 u44 u45 u46 u47 u48 u49 u50 u51 u52 u53 u54 u55 u56 u57 u58 u59 u60 u61 u62 u63 u64 u65 u66 u67 u68 u69 u70 u71 u72 u73 u74 u75 u76 u77 u78 u79 u80 u81 u82 u83 u84 u85 u86 u87 u88 u89 u90 u91 u92 u93 u94 u95 u96 u97 u98 u99 u100 u101 u102 u103 u104
   rintro ⟨ho,hs,hm⟩
   have hrd:=slo_rdZ hs hm
   obtain⟨_,hoc⟩:=slo_bytes hs hm
   have HRD:=hid hrd
   have HOC:=hid hoc
   have OE:=hid ho
   clear hrd hoc ho hs
   go_wp2_with fail
   simp only [jump2]
   go_ret2
   exact⟨r,d,by rw [←OE.out];rfl,by rw [←OE.out];exact HOC.out.2,HRD.out,hm.x⟩
 · intro hp
   go_wp2_with (first|((with_reducible apply wq_mkR 0 R hm);exact rfl;exact rfl;exact rfl;exact rfl;(focus omega);(focus omega);(focus omega);clear hm;intro g1 w hm))
   go_step3
   rename_i hK
   exact hK _ _ (hp _ _ ⟨_,_,_,_,_,_,_,_,_,_,_,_,_,_,_,_,_,_,_,_,_,_,_,_,_,_,_,_,_,_,_,_,_,_,_,_,_,_,_,_,_,_,_,_,_,_,_,_,_,_,_,_,_,_,_,_,_,_,_,_,_,_,_,_,_,_,_,_,_,_,_,_,_,_,_,_,_,_,_,_,_,_,_,_,_,_,_,_,_,_,_,_,_,_,_,_,_,_,_,_,_,_,_,_,_,_,rfl,⟨(show(0:Int)=4*((0:Nat):Int)from rfl),(show 0=3*0 from rfl),Nat.zero_le _,(show SlO [⟨g1,5,(zeros R).map v8⟩] 5 1 _ 0 ((b.take (3*0)).map v8)from SlO.room g1 5 1 R ((zeros R).map v8) (by simp) (by unfold maxLen;omega)),hm⟩⟩)
theorem padL_take(l:List Byte)(pad:Int):(padL l pad).take l.length=l:=by rw [padL,List.take_left'];rfl
theorem padL_nth(l:List Byte)(pad:Int)(k:Nat)(h:l.length≤k):nth (padL l pad) k=0#8:=by
 rw [padL]
 by_cases hk:k<(l++zeros (nroomN l.length pad-l.length)).length
 · rw [nth_get hk,List.getElem_append_right h]
   simp [zeros]
 · exact nth_ge (by omega)
theorem toptext_any(al pad:Int)(key S:List Byte)(fo:BitVec 64)(p:Option Addr)(c:Nat)(hc:key.length≤c)(hS:S.length≤maxLen)(w0:World)(hcf:Coef w0)(hcb:CoefB w0)(hr:RdB w0 p key):
   Gives Tryz.prog 3 #[.agg #[.int .i64 al, .slice p key.length c, .int .i64 pad,v64 fo, .string (bstr S)]] w0 (.bool true):=by
 unfold Gives
 have hm:=Own.start w0
 have MY:=hid fun w=>lmay_any al key p c w
 have PA:=hid (pad27_any pad)
 have NR:=hid (name27_any S hS)
 have AW:=hid fun w (hx:Ext w0 w)=>awakeT w (hcf.ext hx)
 have TC:=hid fun (hk:SchOk al key)(w:World)(hx:Ext w0 w)=>topcipher_any al key hk p c hc w (hcf.ext hx) (hcb.ext hx) (hr.ext hx)
 obtain⟨TL,hTL⟩:=exq (key.length)
 rw [←hTL]at TC MY⊢
 have sz:=bstr_size S
 clear hcf hcb hr hc hTL hS
 go_enter Tryz.func3,Tryz.ntmps3
 go_wp2_with (first|((with_reducible apply wq_boxN (cs:=[.int .i64 al, .slice p TL c, .int .i64 pad,v64 fo, .string (bstr S)]) hm);exact rfl;exact rfl;clear hm;intro g1 w hm))
 have EL:=hid (show(([.int .i64 al, .slice p TL c, .int .i64 pad,v64 fo, .string (bstr S)]:List Value).drop 0).take 2=[.int .i64 al, .slice p TL c]from rfl)
 refine pregion 13 (Marks.of (OneV w0 [⟨g1,27,[.int .i64 al, .slice p TL c, .int .i64 pad,v64 fo, .string (bstr S)]⟩] 24 [.int .i64 0, .slice none 0 0] [.int .i64 al, .slice p TL c]) OneV.ext) [8,9] 149 (by kernel_rfl) (by kernel_rfl) rfl (OneV.start (hm.ext (drew_ext _))) ?_
 simp only [tSC,tZe,dSC,dZe,mCo,mNi]
 repeat (first
     |(apply pwalk_is rfl rfl rfl rfl;(intro vs_ wx hJ_;have hm:=OneV.low hJ_;(with_reducible apply gq_ldN hm);infer_instance;exact rfl;(focus ((repeat (first|exact .hd|assumption|apply Has.tl|apply Has.app));done));(exact EL.out);exact rfl);(simp only [Act.put,sIB,sCS,sCZ];rfl))
     | (apply pwalk_mark (T:=[]) 0 [] rfl rfl rfl (by kernel_rfl) rfl
        · (intro vs_ wx hJ_ hn_ hD_;simp only [pwithS];obtain⟨hm,hK_⟩:=OneV.na hJ_ hn_;refine⟨rfl, ?_⟩;refine zG hm ?_;clear hm;intro g_ w_ hm;exact mark_end rfl (hK_ g_ _ hm)))
     | (apply pwalk_mark (T:=[(3,PMk 0)]) 1 [] rfl rfl rfl (by kernel_rfl) rfl
        · (intro vs_ wx hJ_ hn_ hD_;simp only [pwithS];intro x_ hx_;obtain⟨g_,rfl,hm,hK_⟩:=OneV.sa hJ_ hn_ hx_;refine⟨rfl, ?_⟩;(with_reducible apply wq_stW (cs':=[.int .i64 al, .slice p TL c]) hm);exact rfl;infer_instance;exact rfl;exact rfl;(exact .hd);exact rfl;exact rfl;(exact(by intro v_ hv_;simp at hv_;rcases hv_ with rfl|rfl<;>rfl));clear hm;intro w_ hm;exact mark_end rfl (fun u_=>hK_ u_ _ hm)))
     | (apply pwalk_is rfl rfl rfl rfl
        · (intro vs_ wx hJ_;have hm:=OneV.low hJ_;first|((with_reducible show qGl);first|(exact zJ hm)|(exact zK hm)|(exact zL hm))|(go_simp;(try go_bits);first|exact gives_same|exact gives_skip))
        · (simp only [Act.put,sIB,sCS,sCZ];rfl)))
 intro vs_ wz hJ_ hl_ hall_
 simp only [zCC,zNR]
 repeat rw [pfin_is]
 rw [pfin_cons];intro x3 hx3
 repeat rw [pfin_is]
 rw [pfin_cons];intro y3 hy3
 repeat rw [pfin_is]
 rw [pfin_nil]
 simp only [Act.put,sIB,sCS,sCZ]
 clear hm
 obtain⟨g3,rfl,hm⟩:=OneV.fin hJ_ hx3 (fun i hi=>hall_ i hi)
 clear hJ_ hl_ hall_ hx3 hy3 y3
 go_wp2_with (first|((with_reducible show qLd);first|(refine zB hm ?_)))
 refine(MY.out _).mono ?_
 rintro e_ w ⟨b,rfl,hb,hx_⟩
 replace hm:=hm.ext hx_
 clear hx_
 cases b with
 | false=>
   go_wp2_with fail
   go_ret
   exact⟨rfl,hm.x⟩
 | true =>
   have HK:=hid (hb rfl)
   clear hb
   go_wp2_with fail
   refine(PA.out _).mono ?_
   rintro e_ w_ ⟨b2,rfl,hb2,rfl⟩
   cases b2 with
   | false=>
     go_wp2_with fail
     go_ret
     exact⟨rfl,hm.x⟩
   | true =>
     have HP:=hid (hb2 rfl)
     clear hb2
     go_wp2_with fail
     refine(NR.out _).mono ?_
     rintro e_ w_ ⟨b3,rfl,hb3,rfl⟩
     cases b3 with
     | false=>
       go_wp2_with fail
       go_ret
       exact⟨rfl,hm.x⟩
     | true=>
       have HZ:=hid (hb3 rfl)
       clear hb3
       go_wp2_with (first|((with_reducible show qLd);first|(refine zB hm ?_)))
       refine(TC.out HK.out _ hm.x).mono ?_
       rintro e_ w ⟨gc,rfl,hC,hx_⟩
       replace hm:=hm.ext hx_
       have x01:=hm.x
       obtain⟨W1,hW1⟩:=exq (w)
       rw [←hW1]at x01 hC
       have HC:=hid hC
       have X01:=hid x01
       clear hm
       have hm:=Own.start W1
       have hm:Own W1 w []:=by rw [←hW1];exact hm
       clear hW1 hx_ hC x01 TC MY PA NR
       obtain⟨z1,z2,z3⟩:=HZ.out
       obtain⟨r1,r2,r3⟩:=nroomN_le S.length pad HP.out z2 z3
       have lP:=padL_length S pad HP.out z2 z3
       obtain⟨n,hR⟩:∃n,nroomN S.length pad=n+16:=⟨nroomN S.length pad-16,by omega⟩
       have PD:=hid (padded27_any S pad HP.out z1 z2 z3)
       rw [hR]at lP r1 r3 PD
       have lE:=wideG_length false al key (putL fo 8) (padL S pad) (by omega)
       rw [lP]at lE
       have lT:=putL_length fo 8
       have PL:=hid fun w=>putlong_any' fo w
       have ND:=hid (nnew_any gc pad HP.out)
       have NE:=hid fun (gn:Nat)(w:World)(hrow:Row w gn 62 [.pointer (some ⟨gc,0,none⟩), .int .i64 pad])(hx:Ext W1 w)=>nenc_any gn gc al pad key S fo HP.out z1 z2 z3 w hrow (HC.out.ext hx)
       have EC:=hid fun (w:World)(hx:Ext W1 w)(q px:Option Addr)(cx:Nat)(hcx:n+16≤cx)(hq:RdB w q (putL fo 8))(hpx:RdB w px (padL S pad))=>wEncipher gc n al key (putL fo 8) (padL S pad) (by omega) lP (by omega) q px 8 cx (by omega) hcx w (HC.out.ext hx) hq hpx
       have BK:=wideG_back al key (putL fo 8) (padL S pad) (by omega)
       have PT:=padL_take S pad
       have PN:=hid (padL_nth S pad)
       obtain⟨E,hE⟩:=exq (wideG false al key (putL fo 8) (padL S pad))
       rw [←hE]at NE EC BK lE
       have DE:=hid fun (w:World)(hx:Ext W1 w)(q px:Option Addr)(cx:Nat)(hcx:n+16≤cx)(hq:RdB w q (putL fo 8))(hpx:RdB w px E)=>wDecipher gc n al key (putL fo 8) E (by omega) lE (by omega) q px 8 cx (by omega) hcx w (HC.out.ext hx) hq hpx
       rw [BK]at DE
       have DC:=hid (sxdec_any E (by omega))
       have SC:=hid fun (w:World)(q:Option Addr)(d:Nat)(hd:n+16≤d)(hq:RdB w q E)=>(show Gives Tryz.prog 16 #[.slice q (n+16) d] w (.string (bstr (sxE E)))from by
         have:=sxenc_any E q d (by omega) (by omega) w hq
         rwa [lE]at this)
       rw [lE]at DC
       rw [lT]at EC DE
       obtain⟨P,hP⟩:=exq (padL S pad)
       rw [←hP]at EC DE PD PT PN lP
       obtain⟨T,hT⟩:=exq (putL fo 8)
       rw [←hT]at EC DE PL lT
       obtain⟨TX,hTX⟩:=exq (bstr (sxE E))
       rw [←hTX]at NE DC SC
       obtain⟨N,hN⟩:=exq (S.length)
       rw [←hN]at r1 PT PN sz z2 z3
       have CS:=hid fun (w:World)(px:Option Addr)(cx:Nat)(hpx:RdB w px P)=>(show(convert 22 9 (.slice px N cx)).run Tryz.prog w= .ok (.string (bstr S)) w from by
         have h:=conv_str px (P.take N) cx w (hpx.take N)
         rwa [PT,←hN]at h)
       obtain⟨K,hK⟩:=exq (n+16)
       rw [←hK]at EC DE PD DC SC lP lE r1 r3
       have t1:=Nat.le_of_eq lT
       have t2:=Nat.le_of_eq lT.symm
       have LP:=hid lP
       have nK:(N:Int)≤(K:Int):=by omega
       have nK2:¬(K:Int)<(N:Int):=by omega
       have nK3:decide ((K:Int)<(N:Int))=false:=decide_eq_false nK2
       have kM:(K:Int)≤255:=by omega
       have nK4:decide (K<N)=false:=decide_eq_false (by omega)
       clear hE hP hT hTX hN hK hR lP lE lT BK PT r2 z1 HZ HP HC HK
       go_wp2_with fail
       refine(ND.out _).mono ?_
       rintro e_ w ⟨gn,rfl,hm1⟩
       replace hm:=hm.join hm1
       clear hm1
       go_wp2_with fail
       refine(NE.out gn _ (hm.row .hd) hm.x).mono ?_
       rintro e_ w ⟨rfl,hx_⟩
       replace hm:=hm.ext hx_
       clear hx_ NE ND
       go_wp2_with (first|(go_at_call 11;(with_reducible refine(PL.out _).mono ?_);rintro e_ w ⟨rfl,hx_⟩;replace hm:=hm.ext hx_;clear hx_)|((((with_reducible show qSt);first|(refine zE hm ?_)));clear hm;intro w hm)|((first|((with_reducible show qAl);first|(refine zG hm ?_)));clear hm;(first|(have hx_:=g1;clear hx_;(first|(have hx_:=g2;clear hx_;(first|(have hx_:=g3;clear hx_;intro gx_)|intro g3))|intro g2))|intro g1);intro w hm))
       refine(DC.out _).mono ?_
       rintro e_ w ⟨px,cx,rfl,hcx,hpx,hx_⟩
       replace hm:=hm.ext hx_
       have HPX:=hid hpx
       clear hx_ hpx DC
       go_wp2_with fail
       refine(DE.out _ hm.x _ px cx hcx (hm.rdB (g:=g2) (l:=T) .hd) HPX.out).mono ?_
       rintro e_ w ⟨py,cy,rfl,hcy,hpy,hx_⟩
       replace hm:=hm.ext hx_
       clear hx_ DE HPX
       obtain⟨A,rfl⟩:=Option.isSome_iff_exists.1 (hpy.1 (by rw [LP.out];omega))
       have s1:=CS.out _ (some A) cy hpy
       have ncy:N≤cy:=by omega
       have HPY:=hid hpy
       clear hpy
       go_wp2_with (first|((with_reducible apply wq_slH (h:=N) Tryz.underlying22);infer_instance;exact rfl;exact rfl;exact rfl;exact ncy))
       go_loopw [18] (fun i wr=>∃k:Nat,N≤k∧k≤K∧i= .int .i64 (k:Int)∧w=wr) (fun i _=>K-(intOf i).toNat)
       case atStart=>exact⟨N,Nat.le_refl _,r1,rfl,rfl⟩
       case round=>
         obtain⟨k,hk1,hk2,rfl,rfl⟩:=hrel
         by_cases hlt:k<K
         · have hd1:decide ((k:Int)<(K:Int))=true:=decide_eq_true (by omega)
           have hd2:(k:Int)<(K:Int):=by omega
           have hd3:0≤(k:Int)∧(k:Int)<(K:Int):=by omega
           have zk:=PN.out k hk1
           have KP:=hid (show k<P.length from by rw [LP.out];exact hlt)
           go_wp2_with (first|((with_reducible apply wq_rdb (k:=k) HPY.out);exact rfl;infer_instance;exact rfl;exact KP.out))
           go_roundw
           case rel=>exact⟨k+1,by omega,by omega,by go_num,by first|rfl|trivial⟩
           case measure=>simp [intOf]<;>omega
         · obtain rfl:k=K:=by omega
           have hd1:decide ((k:Int)<(k:Int))=false:=decide_eq_false (by omega)
           clear s1
           go_wp2_with fail
           refine(PD.out _).mono ?_
           rintro e_ w ⟨gp,rfl,hm1⟩
           replace hm:=hm.join hm1
           clear hm1 HPY
           go_wp2_with fail
           refine(EC.out _ hm.x _ _ k (Nat.le_refl _) (hm.rdB (g:=g2) (l:=T) (.tl .hd)) (hm.rdB (g:=gp) (l:=P) .hd)).mono ?_
           rintro e_ w ⟨pz,cz,rfl,hcz,hpz,hx_⟩
           replace hm:=hm.ext hx_
           have SX:=hid (SC.out _ pz cz hcz hpz)
           clear hx_ hpz
           go_wp2_with fail
           refine(SX.out).mono ?_
           rintro e_ w ⟨rfl,hx_⟩
           replace hm:=hm.ext hx_
           clear hx_
           go_wp2_with fail
           refine(AW.out _ (X01.out.trans hm.x)).mono ?_
           rintro e_ w ⟨rfl,hx_⟩
           replace hm:=hm.ext hx_
           clear hx_
           go_wp2_with fail
           go_ret
           exact⟨rfl,X01.out.trans hm.x⟩
def ofStr(s:ByteArray):List Byte:=s.data.toList.map UInt8.toBitVec
theorem bstr_of(s:ByteArray):bstr (ofStr s)=s:=by
 obtain⟨d⟩:=s
 show(⟨(((d.toList.map UInt8.toBitVec).map UInt8.ofBitVec).toArray)⟩:ByteArray)=_
 rw [List.map_map,show(UInt8.ofBitVec∘UInt8.toBitVec)=id from rfl,List.map_id]
theorem text_walk(al:Int)(key:List Byte)(p:Option Addr)(c:Nat)(pad:Int)(fo:BitVec 64)(s:ByteArray)(w0:World)(_a1: -9223372036854775808≤al)(_a2:al≤9223372036854775807)(hr:RdB w0 p key)(hc:key.length≤c)(_a3:key.length≤maxLen)(_a4: -9223372036854775808≤pad)(_a5:pad≤9223372036854775807)(hs:s.size≤maxLen)(hl:Coef w0∧CoefB w0):
   Gives Tryz.prog 3 #[.agg ((([Value.int .i64 al])++(([Value.slice p key.length c])))++(([Value.int .i64 pad])++(([v64 fo])++(([Value.string s]))))).toArray] w0 (.bool true):=by
 have h:=toptext_any al pad key (ofStr s) fo p c hc (by rw [←bstr_size,bstr_of];exact hs) w0 hl.1 hl.2 hr
 rwa [bstr_of]at h
open Go Go.ChangeShapes Go.WideShapes Go.ChangeAt Go.WideMaps Go.WideElems Go.RowKit
theorem cells_ints {H:Type}{enc:TypeId×Value→H}{P:Program}{w:World}{base:Nat}{spare:Nat→Bool}{held:Bool}{fuel:Nat}{t e:TypeId}{n:Nat}{k:IntKind}{cs:List Value}{ns:List Int}{q:List MemPlace}
   (ht:P.underlying t=some (.array n e)) (he:P.underlying e=some (.int k)) (hc:P.cellsOf e=1) (hm:P.cellsOf t=n)
   (h:DataW.trod enc P w base spare held fuel t cs=some (.agg (ns.map fun i=> .lit (.int k i)),q)):cs=ns.map fun i=> .int k i:=by
 obtain⟨xs,m,_,hx,hl,hn,hel⟩:=DataW.trod_array ht h
 have hx1:ns.map (fun i=>DataW.lit (H:=H) (.int k i))=xs.map (·.1):=by
   have:=congrArg Prod.fst hx
   simpa using this
 have hln:ns.length=n:=by have:=congrArg List.length hx1;simp only [List.length_map]at this;omega
 rw [hm]at hl
 apply List.ext_getElem?
 intro i
 by_cases hi:i<n
 · have hx':=hel i hi
   rw [hc,Nat.mul_one,List.getElem?_eq_getElem (by omega)]at hx'
   obtain⟨n0,e1,e2,_⟩:=DataW.trod_int he hx'
   have a1:cs[i]? =some (.int k n0):=by
     have:=congrArg (·[0]?) e1
     simpa [List.getElem?_take,List.getElem?_drop]using this
   have a2:=congrArg (·[i]?) hx1
   simp only [List.getElem?_map,List.getElem?_eq_getElem (show i<xs.length by omega),List.getElem?_eq_getElem (show i<ns.length by omega),Option.map_some,e2,Option.some.injEq]at a2
   injection a2 with a3
   injection a3 with _ a4
   rw [a1,List.getElem?_map,List.getElem?_eq_getElem (show i<ns.length by omega),Option.map_some,a4]
 · rw [List.getElem?_eq_none (by omega),List.getElem?_eq_none (by simp;omega)]
theorem cells_rows {H:Type}{enc:TypeId×Value→H}{P:Program}{w:World}{base:Nat}{spare:Nat→Bool}{held:Bool}{fuel:Nat}{t e b:TypeId}{n m:Nat}{k:IntKind}{cs:List Value}{rs:List (List Int)}{q:List MemPlace}
   (ht:P.underlying t=some (.array n e)) (he:P.underlying e=some (.array m b)) (hb:P.underlying b=some (.int k)) (hcb:P.cellsOf b=1) (hce:P.cellsOf e=m)
   (h:DataW.trod enc P w base spare held fuel t cs=some (.agg (rs.map fun r=> .agg (r.map fun i=> .lit (.int k i))),q)):∀i,i<n→(cs.drop (i*m)).take m=(rs.getD i []).map fun i=> .int k i:=by
 obtain⟨xs,m',_,hx,hl,hn,hel⟩:=DataW.trod_array ht h
 have hx1:(rs.map fun r=>DataW.agg (H:=H) (r.map fun i=> .lit (.int k i)))=xs.map (·.1):=by
   have:=congrArg Prod.fst hx
   simpa using this
 have hln:rs.length=n:=by have:=congrArg List.length hx1;simp only [List.length_map]at this;omega
 intro i hi
 have hx':=hel i hi
 rw [hce,List.getElem?_eq_getElem (by omega)]at hx'
 have a2:=congrArg (·[i]?) hx1
 simp only [List.getElem?_map,List.getElem?_eq_getElem (show i<xs.length by omega),List.getElem?_eq_getElem (show i<rs.length by omega),Option.map_some,Option.some.injEq]at a2
 have hx2:xs[i]=(DataW.agg (rs[i].map fun i=> .lit (.int k i)),xs[i].2):=by rw [a2]
 rw [hx2]at hx'
 rw [List.getD_eq_getElem?_getD,List.getElem?_eq_getElem (show i<rs.length by omega),Option.getD_some]
 exact cells_ints he hb hcb hce hx'
theorem gFirst : Tryz.prog.globalNamed "wringer/blake.first" = some 3 := by kernel_rfl
theorem gRows : Tryz.prog.globalNamed "wringer/blake.rows" = some 4 := by kernel_rfl
theorem tFirst:(Tryz.prog.globals[3]?).map (·.type)=some 189:=by kernel_rfl
theorem tRows:(Tryz.prog.globals[4]?).map (·.type)=some 235:=by kernel_rfl
def firstN:List Int:=[7640891576956012808,13503953896175478587,4354685564936845355,11912009170470909681,5840696475078001361,11170449401992604703,2270897969802886507,6620516959819538809]
def rowsN:List (List Int):=rowsL.map fun r=>r.map fun x=>(x.toNat:Int)
theorem firstN_v:(firstN.map fun i=>Value.int .u64 i)=firstL.map v64:=rfl
theorem rowsN_v(i:Nat)(hi:i<10):(rowsN.getD i []).map (fun i=>Value.int .u8 i)=(rowsL.getD i []).map v8:=by
 rw [rowsN,List.getD_eq_getElem?_getD,List.getElem?_map,List.getD_eq_getElem?_getD,List.getElem?_eq_getElem (by rw [rowsL_length];exact hi)]
 simp only [Option.map_some,Option.getD_some,List.map_map]
 rfl
theorem coefB_of {W:World}{cs0 cs1:List Value}(h0:∀i,W.cell? ⟨3,i,none⟩=cs0[i]?)(h1:∀i,W.cell? ⟨4,i,none⟩=cs1[i]?)(c0:cs0=firstN.map fun i=>Value.int .u64 i)(c1:∀i,i<10→(cs1.drop (i*16)).take 16=(rowsN.getD i []).map fun i=>Value.int .u8 i):CoefB W:=by
 refine⟨fun i hi=> ?_,rowsL_each,fun _=>rfl,fun i hi=> ?_⟩
 · rw [h0,c0,firstN_v,map64_at firstL (by rw [firstL_length];exact hi)]
 · have hl:=flatten_length 16 rowsL rowsL_each
   rw [rowsL_length]at hl
   have hq:i/16<10:=by omega
   have hr:i%16<16:=Nat.mod_lt _ (by omega)
   have e:i/16*16+i%16=i:=by omega
   show W.cell? ((⟨4,0,none⟩:Addr).add i)=_
   rw [Addr.add_mid,Nat.zero_add,h1]
   have hc:=congrArg (·[i%16]?) ((c1 (i/16) hq).trans (rowsN_v _ hq))
   simp only [List.getElem?_take,if_pos hr,List.getElem?_drop]at hc
   rw [e]at hc
   have hf:=flatten_getD 16 rowsL (i/16) (i%16) rowsL_each (by rw [rowsL_length];exact hq) hr
   rw [e]at hf
   have hle:((rowsL.getD (i/16) []).length)=16:=by
     rw [List.getD_eq_getElem?_getD,List.getElem?_eq_getElem (by rw [rowsL_length];exact hq)]
     exact rowsL_each _ (List.getElem_mem _)
   generalize rowsL.getD (i/16) []=RW at*
   rw [hc,hf,List.getElem?_map,List.getD_eq_getElem?_getD,List.getElem?_eq_getElem (show i%16<RW.length by omega)]
   rfl
def laidA : List (String × DataW Unit) := [("wringer/blake.first", Rows.laid_wringer_blake_first), ("wringer/blake.rows", Rows.laid_wringer_blake_rows), ("wringer/turn.mixes", Rows.laid_wringer_turn_mixes), ("wringer/turn.unmixes", Rows.laid_wringer_turn_unmixes)]
theorem gMixes : Tryz.prog.globalNamed "wringer/turn.mixes" = some 0 := by kernel_rfl
theorem gUnmixes : Tryz.prog.globalNamed "wringer/turn.unmixes" = some 1 := by kernel_rfl
theorem tMixes:(Tryz.prog.globals[0]?).map (·.type)=some 109:=by kernel_rfl
theorem tUnmixes:(Tryz.prog.globals[1]?).map (·.type)=some 109:=by kernel_rfl
theorem laid_coefA {W:World}(h:laidMetH Tryz.prog laidA W):Coef W∧CoefB W:=by
 rw [MakeChecks.laidMetH_plain _ _ _ (by kernel_rfl)]at h
 obtain⟨ps,⟨g0,t0,cs0,f0,p0,q0,hg0,ht0,hv0,hd0,⟨g1,t1,cs1,f1,p1,q1,hg1,ht1,hv1,hd1,⟨g2,t2,cs2,f2,p2,q2,hg2,ht2,hv2,hd2,⟨g3,t3,cs3,f3,p3,q3,hg3,ht3,hv3,hd3,_,_⟩,_⟩,_⟩,_⟩,_,_⟩:=h
 obtain rfl:=Option.some.inj (gFirst.symm.trans hg0)
 obtain rfl:=Option.some.inj (gRows.symm.trans hg1)
 obtain rfl:=Option.some.inj (gMixes.symm.trans hg2)
 obtain rfl:=Option.some.inj (gUnmixes.symm.trans hg3)
 obtain rfl:=Option.some.inj (tFirst.symm.trans ht0)
 obtain rfl:=Option.some.inj (tRows.symm.trans ht1)
 obtain rfl:=Option.some.inj (tMixes.symm.trans ht2)
 obtain rfl:=Option.some.inj (tUnmixes.symm.trans ht3)
 obtain⟨l0⟩:=cs0
 obtain⟨l1⟩:=cs1
 obtain⟨l2⟩:=cs2
 obtain⟨l3⟩:=cs3
 have c0:=cells_ints (ns:=firstN) Tryz.underlying189 Tryz.underlying25 (by kernel_rfl) (by kernel_rfl) hd0
 have c1:=cells_rows (rs:=rowsN) Tryz.underlying235 Tryz.underlying132 Tryz.underlying5 (by kernel_rfl) (by kernel_rfl) hd1
 have c2:=cells_ints (ns:=[2,3,1,1]) Tryz.underlying109 Tryz.underlying5 (by kernel_rfl) (by kernel_rfl) hd2
 have c3:=cells_ints (ns:=[14,11,13,9]) Tryz.underlying109 Tryz.underlying5 (by kernel_rfl) (by kernel_rfl) hd3
 refine⟨?_,coefB_of (fun i=>by have:=World.var?_cell hg0 hv0 i;simpa using this) (fun i=>by have:=World.var?_cell hg1 hv1 i;simpa using this) c0 c1⟩
 simp only at c2 c3
 subst c2 c3
 refine⟨⟨fun _=>rfl,fun i hi=> ?_⟩,⟨fun _=>rfl,fun i hi=> ?_⟩⟩
 · show W.cell? ((⟨0,0,none⟩:Addr).add i)=_
   rw [Addr.add_mid,Nat.zero_add,World.var?_cell hg2 hv2 i]
   rcases (show i=0∨i=1∨i=2∨i=3 by simp [mixesL]at hi;omega)with rfl|rfl|rfl|rfl<;>rfl
 · show W.cell? ((⟨1,0,none⟩:Addr).add i)=_
   rw [Addr.add_mid,Nat.zero_add,World.var?_cell hg3 hv3 i]
   rcases (show i=0∨i=1∨i=2∨i=3 by simp [unmixesL]at hi;omega)with rfl|rfl|rfl|rfl<;>rfl
set_option maxRecDepth 100000 in
theorem door_metA(os:Os)(args:Array Value):laidMetH Tryz.prog laidA ((World.doorLaid Tryz.prog 400 os).forCall (fun _ _=>0) ⟨#[],args,[]⟩).memory:=
 laidMetH_of_parts3 (fuel:=8) (laidMet_of_run' 8 (by kernel_rfl) (by kernel_rfl)) (by kernel_rfl) (by kernel_rfl)
end Go.Proofs.YtneacgpmjlocjaaGreatDoor
