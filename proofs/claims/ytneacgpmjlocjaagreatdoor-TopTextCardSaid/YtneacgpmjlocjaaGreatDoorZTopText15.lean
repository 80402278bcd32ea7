/-
  Texts of the program, walked, and plain ones. Conditions: those written in each theorem.
-/
import Derived.Test.YtneacgpmjlocjaaGreatDoorZTopText0
import Derived.Test.YtneacgpmjlocjaaGreatDoorZTopText14
import Derived.Test.YtneacgpmjlocjaaGreatDoorZTopText8
import Derived.Test.YtneacgpmjlocjaaGreatDoorZTopText12
import Derived.Test.YtneacgpmjlocjaaGreatDoorZTopText11
import Derived.Test.YtneacgpmjlocjaaGreatDoorZTopText7
import Derived.Test.YtneacgpmjlocjaaGreatDoorZTopText13
import Derived.Test.YtneacgpmjlocjaaGreatDoorZTopText6
import Derived.Test.YtneacgpmjlocjaaGreatDoorZTopText10
import Derived.Deep.CutBlock
set_option linter.unusedSimpArgs false
set_option linter.unusedVariables false
set_option maxHeartbeats 16000000
open Go.Lib (hid)
namespace Go.Proofs.YtneacgpmjlocjaaGreatDoor
open Go Go.RowKit
set_option maxRecDepth 100000
def bdV(ms:List Byte)(W:List (BitVec 32))(b:List Byte):List (BitVec 32):=(bdF W (ofL (clB ms 3) 0#32) (pad b 16) (strN 1024 (pad b 16).length)).1
theorem abody_any(g:Nat)(tw ms b:List Byte)(W:List (BitVec 32))(hb:b.length≤1000000)(p:Option Addr)(c:Nat)(w0:World)(h:AdR w0 g tw ms W)(hr:RdB w0 p b):
   Gives Tryz.prog 185 #[.pointer (some ⟨g,0,none⟩), .slice p b.length c] w0 (WV (num (lowB (bdV ms W b)) 0 8) (num (lowB (bdV ms W b)) 8 8)):=by
 unfold Gives
 have hm:=Own.start w0
 have HA:=hid h
 obtain⟨gw,h1,_,htw,hms,_⟩:=h
 have HR:=hid fun w (hx:Ext w0 w)=>row_ext h1 hx
 have EM:=hid (akC_ms tw ms gw htw hms)
 have HMS:=hid hms
 obtain⟨y,hy⟩:∃y,y=ofL (clB ms 3) 0#32:=⟨_,rfl⟩
 have ly:y.length=5:=by rw [hy];exact ofL_length _ _
 have PN:=hid fun w=>(show Calls Tryz.prog 190 #[A8 ms] w fun e w'=>∃g,e= .returned (.pointer (some ⟨g,0,none⟩))∧w.heap.size≤g∧Row w' g 279 (psC y (zer 5) (zer 16) 0)∧Ext w w' from by rw [hy];exact pnew_any ms hms w)
 have PD:=hid fun w (hx:Ext w0 w)=>padded_new b p c 16 w (hr.ext hx) (by omega) (by omega) (by omega)
 have lB:(pad b 16).length=16*((pad b 16).length/16):=by
   have:=room_is b.length 16 (by omega)
   rw [show(pad b 16).length=b.length+roomN b.length 16 from by simp [pad]]
   omega
 have lB2:(pad b 16).length≤1000016:=by
   have:=roomN_lt b.length 16
   simp only [pad,List.length_append,List.length_replicate]
   omega
 have EV:Hid (bdV ms W b=(bdF W y (pad b 16) (strN 1024 (pad b 16).length)).1):=hid (by rw [hy];rfl)
 obtain⟨B,hB⟩:=exq (pad b 16)
 rw [←hB]at PD lB lB2 EV
 have PC:=hid fun (gs kv sv:Nat)(q:Option Addr)(w:World)(R:List Blk)(hrd:∀wx X,Own w0 wx (X::R)→RdB wx q B)(hk:Has R ⟨kv,123,[.pointer (some ⟨g,0,none⟩)]⟩)(hs:Has R ⟨sv,270,[.pointer (some ⟨gs,0,none⟩)]⟩)(hm:Own w0 w (⟨gs,279,psC y (zer 5) (zer 16) 0⟩::R))=>pieces_any g gs kv sv _ tw ms W y B ly lB (by omega) q B.length (Nat.le_refl _) w0 w R HA.out hrd hk hs hm
 have LD:=bdF_len W y B (strN 1024 B.length)
 have NU:=hid fun (gs:Nat)(w:World)(h:Row w gs 279 (psC y (bdF W y B (strN 1024 B.length)).1 (bdF W y B (strN 1024 B.length)).2 0))=>anumber_any gs y (bdF W y B (strN 1024 B.length)).1 (bdF W y B (strN 1024 B.length)).2 ly LD.1 LD.2 w h
 rw [←EV.out]at NU PC
 clear h1 hr hy hB lB lB2 LD EV hb
 go_enter Tryz.func185,Tryz.ntmps185
 go_wp2_with (first|((with_reducible apply wq_box1 (v:= .pointer (some ⟨g,0,none⟩)) hm);exact rfl;exact rfl;exact rfl;clear hm;intro gk w hm)|((with_reducible apply wq_st1 (v:= .pointer (some ⟨gs,0,none⟩)) hm);exact rfl;infer_instance;exact rfl;exact rfl;exact rfl;exact rfl;exact .hd;exact(show 0<1 from by omega);clear hm;intro w hm)|((with_reducible apply wq_rowN (HR.out _ hm.x));exact rfl;infer_instance;exact rfl;exact EM.out;exact(by rw [List.length_map];exact HMS.out))|(go_at_call 190;(with_reducible refine(PN.out _).mono ?_);rintro e_ w ⟨gs,rfl,hg_,hr_,hx_⟩;replace hm:=hm.push hx_ hg_ hr_;clear hx_ hg_ hr_)|(go_at_call 109;(with_reducible refine(PD.out _ hm.x).mono ?_);rintro e_ w ⟨gp,rfl,hg_,hr_,hx_⟩;replace hm:=hm.push hx_ hg_ hr_;clear hx_ hg_ hr_)|((with_reducible show qLd);first|(refine zC hm ?_))|((first|((with_reducible show qAl);first|(refine zG hm ?_)));clear hm;(first|(have hx_:=g1;clear hx_;(first|(have hx_:=g2;clear hx_;intro gx_)|intro g2))|intro g1);intro w hm))
 refine(PC.out gs gk g2 _ w _ (fun wx X h=>h.rdB (g:=gp) (l:=B) (.tl .hd)) (.tl (.tl (.tl .hd))) (.tl .hd) hm.pull2).mono ?_
 rintro e_ w ⟨rfl,hm1⟩
 replace hm:=hm1
 clear hm1
 go_wp2_with (first|(go_at_call 192;(with_reducible refine(NU.out gs _ (hm.row .hd)).mono ?_);rintro e_ w ⟨rfl,hx_⟩;replace hm:=hm.ext hx_;clear hx_)|((with_reducible show qLd);first|(refine zC hm ?_))|((((with_reducible show qSt);first|(refine zE hm ?_)));clear hm;intro w hm))
 trace "T1"
 trace_state
 refine rtO hm rfl rfl ⟨rfl,hm.x⟩
def asLo(tw ms t b:List Byte)(W:List (BitVec 32)):BitVec 64:=num (lowB (hdV tw t b.length)) 0 8+num (lowB (bdV ms W b)) 0 8
def asHi(tw ms t b:List Byte)(W:List (BitVec 32)):BitVec 64:=num (lowB (hdV tw t b.length)) 8 8+num (lowB (bdV ms W b)) 8 8+carryB (num (lowB (hdV tw t b.length)) 0 8) (num (lowB (bdV ms W b)) 0 8) 0#64
theorem asum_any(g:Nat)(tw ms t b:List Byte)(W:List (BitVec 32))(ht:t.length≤70368744177000)(hb:b.length≤1000000)(p q:Option Addr)(c d:Nat)(hc:t.length≤c)(w0:World)(h:AdR w0 g tw ms W)(hr:RdB w0 p t)(hq:RdB w0 q b):
   Gives Tryz.prog 177 #[.pointer (some ⟨g,0,none⟩), .slice p t.length c, .slice q b.length d] w0 (WV (asLo tw ms t b W) (asHi tw ms t b W)):=by
 unfold Gives
 have hm:=Own.start w0
 have H1:=hid fun w (hx:Ext w0 w)=>ahead12_any g tw ms t W b.length hb ht p c hc w (h.ext hx) (hr.ext hx)
 have H2:=hid fun w (hx:Ext w0 w)=>abody_any g tw ms b W hb q d w (h.ext hx) (hq.ext hx)
 have PL:=hid fun w=>(show Gives Tryz.prog 132 #[WV (num (lowB (hdV tw t b.length)) 0 8) (num (lowB (hdV tw t b.length)) 8 8),WV (num (lowB (bdV ms W b)) 0 8) (num (lowB (bdV ms W b)) 8 8)] w (WV (asLo tw ms t b W) (asHi tw ms t b W))from oplus_any _ _ _ _ w)
 generalize asLo tw ms t b W=lo at*
 generalize asHi tw ms t b W=hi at*
 generalize num (lowB (hdV tw t b.length)) 0 8=a at*
 generalize num (lowB (hdV tw t b.length)) 8 8=a' at*
 generalize num (lowB (bdV ms W b)) 0 8=e at*
 generalize num (lowB (bdV ms W b)) 8 8=e' at*
 clear h hr hq
 go_enter Tryz.func177,Tryz.ntmps177
 go_wp2_with (first|(go_at_call 184;(with_reducible refine(H1.out _ hm.x).mono ?_);rintro e_ w ⟨rfl,hx_⟩;replace hm:=hm.ext hx_;clear hx_)|(go_at_call 185;(with_reducible refine(H2.out _ hm.x).mono ?_);rintro e_ w ⟨rfl,hx_⟩;replace hm:=hm.ext hx_;clear hx_)|(go_at_call 132;(with_reducible refine(PL.out _).mono ?_);rintro e_ w ⟨rfl,hx_⟩;replace hm:=hm.ext hx_;clear hx_)|((((with_reducible show qSt);first|(refine zE hm ?_)));clear hm;intro w hm)|((first|((with_reducible show qAl);first|(refine zG hm ?_)));clear hm;intro gx_;intro w hm))
 refine rtO hm rfl rfl ⟨rfl,hm.x⟩
def OneV(w0:World)(L:List Blk)(T:TypeId)(z x:List Value)(s:List (Option Value))(w:World):Prop:=
 ∃a b,s=[a,b]∧((a=none∧b=none∧Own w0 w L)∨∃g,a=some (.pointer (some ⟨g,0,none⟩))∧((b=none∧Own w0 w (⟨g,T,z⟩::L))∨∃u,b=some u∧Own w0 w (⟨g,T,x⟩::L)))
section
variable {w0 w:World} {L:List Blk} {T:TypeId} {z x:List Value} {s:List (Option Value)}
theorem OneV.ext(s:List (Option Value))(w w':World)(h:OneV w0 L T z x s w)(hx:Ext w w'):OneV w0 L T z x s w':=by
 obtain⟨a,b,rfl,h⟩:=h
 refine⟨a,b,rfl, ?_⟩
 rcases h with ⟨h1,h2,h3⟩|⟨g,h1,h2⟩
 · exact .inl ⟨h1,h2,h3.ext hx⟩
 · refine .inr ⟨g,h1, ?_⟩
   rcases h2 with ⟨h3,h4⟩|⟨u,h3,h4⟩
   · exact .inl ⟨h3,h4.ext hx⟩
   · exact .inr ⟨u,h3,h4.ext hx⟩
theorem OneV.start(h:Own w0 w L):OneV w0 L T z x (List.replicate 2 none) w:=⟨none,none,rfl, .inl ⟨rfl,rfl,h⟩⟩
theorem OneV.low(h:OneV w0 L T z x s w):Own w0 w L:=by
 obtain⟨a,b,rfl,h⟩:=h
 rcases h with ⟨_,_,h⟩|⟨g,_,⟨_,h⟩|⟨_,_,h⟩⟩
 · exact h
 · exact h.drop
 · exact h.drop
theorem OneV.na(h:OneV w0 L T z x s w)(hn:s[0]? =some none):Own w0 w L∧∀g w',Own w0 w' (⟨g,T,z⟩::L)→OneV w0 L T z x (s.set 0 (some (.pointer (some ⟨g,0,none⟩)))) w':=by
 obtain⟨a,b,rfl,h⟩:=h
 obtain rfl:a=none:=by simpa using hn
 rcases h with ⟨_,h2,h3⟩|⟨g,h1,_⟩
 · exact⟨h3,fun g w' hm=>⟨_,b,rfl, .inr ⟨g,rfl, .inl ⟨h2,hm⟩⟩⟩⟩
 · cases h1
theorem OneV.sa {v:Value}(h:OneV w0 L T z x s w)(hn:s[1]? =some none)(hv:s[0]? =some (some v)):∃g,v= .pointer (some ⟨g,0,none⟩)∧Own w0 w (⟨g,T,z⟩::L)∧∀u w',Own w0 w' (⟨g,T,x⟩::L)→OneV w0 L T z x (s.set 1 (some u)) w':=by
 obtain⟨a,b,rfl,h⟩:=h
 obtain rfl:b=none:=by simpa using hn
 obtain rfl:a=some v:=by simpa using hv
 rcases h with ⟨h1,_⟩|⟨g,h1,⟨_,h3⟩|⟨_,h3,_⟩⟩
 · cases h1
 · exact⟨g,Option.some.inj h1,h3,fun u w' hm=>⟨_,some u,rfl, .inr ⟨g,h1, .inr ⟨u,rfl,hm⟩⟩⟩⟩
 · cases h3
theorem OneV.fin {v:Value}(h:OneV w0 L T z x s w)(hv:s[0]? =some (some v))(hl:∀i,i<2→∃x,s[i]? =some (some x)):∃g,v= .pointer (some ⟨g,0,none⟩)∧Own w0 w (⟨g,T,x⟩::L):=by
 obtain⟨a,b,rfl,h⟩:=h
 obtain rfl:a=some v:=by simpa using hv
 obtain⟨y,hy⟩:=hl 1 (by omega)
 simp at hy
 subst hy
 rcases h with ⟨h1,_⟩|⟨g,h1,⟨h3,_⟩|⟨_,_,h3⟩⟩
 · cases h1
 · cases h3
 · exact⟨g,Option.some.inj h1,h3⟩
end
def xchB(own nonce:List Byte)(k:Nat):List Byte:=blkB own (putL (BitVec.ofNat 64 k) 8++nonce.drop 16)
theorem xchB_length(own nonce:List Byte)(k:Nat):(xchB own nonce k).length=64:=blkB_length _ _
def xchL(key nonce b:List Byte):List Byte:=strL 64 (xchB (shoB key (nonce.take 16)) nonce) b
theorem xchL_length(key nonce b:List Byte):(xchL key nonce b).length=b.length:=strL_length 64 (by omega) _ (xchB_length _ _) b
theorem ccrypt12o(key nonce b:List Byte)(hk:key.length=32)(hn:nonce.length=24)(hb:b.length≤70368744177000)(p:Option Addr)(c:Nat)(w0:World)(hr:RdB w0 p b)(hc:b.length≤c):
   Calls Tryz.prog 64 #[A8 key,A8 nonce, .int .i64 12, .slice p b.length c] w0 fun e w'=>∃v M R,e= .returned (.tuple #[v, .int .i64 0])∧Own w0 w' (M++R)∧SlO M 5 1 v b.length ((xchL key nonce b).map v8):=by
 have hm:=Own.start w0
 have lN:(nonce.take 16).length=16:=by rw [List.length_take];omega
 have SH:=hid fun w=>short12 key (nonce.take 16) hk lN w
 have EN:=hid (show((nonce.map v8).drop 0).take 16=(nonce.take 16).map v8 by rw [dZe,List.map_take])
 have EL:=hid (show xchL key nonce b=strF 64 (xchB (shoB key (nonce.take 16)) nonce) b (strN 64 b.length)from rfl)
 have lO:=shoB_length key (nonce.take 16)
 have RL:=hid (xchL_length key nonce b)
 have EN2:Hid ((nonce.take 16).length=16):=hid lN
 generalize xchL key nonce b=RES at*
 generalize shoB key (nonce.take 16)=O at*
 generalize nonce.take 16=NA at*
 have LB:=hid fun k=>strF_length 64 (xchB O nonce) (xchB_length O nonce) b k
 have E0:=hid (show strF 64 (xchB O nonce) b 0=[]from rfl)
 have EK:=hid fun k=>(show strF 64 (xchB O nonce) b (k+1)=strF 64 (xchB O nonce) b k++xorL (b.drop (64*k)) (xchB O nonce k)from rfl)
 have BL:=hid fun (k:Nat)(IN:List Byte)(h1:IN.length=16)(h2:IN.drop 8=nonce.drop 16)(w:World)=>(show(over IN 0 (putL (BitVec.ofNat 64 k) 8)).length=16∧(over IN 0 (putL (BitVec.ofNat 64 k) 8)).drop 8=nonce.drop 16∧Gives Tryz.prog 80 #[A8 O,A8 (over IN 0 (putL (BitVec.ofNat 64 k) 8)), .int .i64 12] w (.tuple #[A8 (xchB O nonce k), .int .i64 0])from by
   have e:over IN 0 (putL (BitVec.ofNat 64 k) 8)=putL (BitVec.ofNat 64 k) 8++nonce.drop 16:=by
     rw [over,tZe,List.nil_append,putL_length,Nat.zero_add,h2]
   have l:(over IN 0 (putL (BitVec.ofNat 64 k) 8)).length=16:=by rw [over_length _ _ _ (by rw [putL_length];omega),h1]
   refine⟨l, ?_, ?_⟩
   · rw [e,List.drop_append_of_le_length (by rw [putL_length];omega),List.drop_of_length_le (by rw [putL_length];omega),List.nil_append]
   · rw [e]at l⊢
     exact block12 O _ lO l w)
 have lX:=fun k=>xchB_length O nonce k
 have NL:=hid (strN_le 64 b.length (by omega))
 have NT:=hid fun k (h:k<strN 64 b.length)=>strN_lt 64 b.length k (by omega) h
 generalize strF 64 (xchB O nonce) b=F at*
 generalize xchB O nonce=S at*
 generalize strN 64 b.length=n at*
 have LX:=hid lX
 have XO:=hid fun (k L e:Nat)(w:World)(q r:Option Addr)(d:Nat)(hL:(b.drop (64*k)).length=L)(h1:RdB w q (b.drop (64*k)))(h2:RdB w r (S k))=>(show GivesR Tryz.prog 81 #[.slice q L e, .slice r 64 d] w (BytesS (xorL (b.drop (64*k)) (S k)))from by
   have:=xor_any (b.drop (64*k)) (S k) q r e d w h1 h2 (by rw [List.length_drop];omega) (by rw [lX];omega)
   rwa [hL,lX]at this)
 have HR:=hid hr
 have HIN:Hid ((over (zer 16) 8 ((nonce.drop 16).take 8)).length=16∧(over (zer 16) 8 ((nonce.drop 16).take 8)).drop 8=nonce.drop 16):=hid (by
   have e1:(nonce.drop 16).take 8=nonce.drop 16:=List.take_of_length_le (by rw [List.length_drop];omega)
   rw [e1]
   refine⟨by rw [over_length _ _ _ (by rw [List.length_drop,zer_length];omega),zer_length], ?_⟩
   rw [over,List.drop_of_length_le (l:=zer 16) (by rw [zer_length,List.length_drop];omega),List.append_nil]
   exact List.drop_left' (by rw [List.length_take,zer_length];rfl))
 have LB0:=hid hb
 have HC:=hid hc
 have h1:=Nat.le_of_eq hk
 have h2:=Nat.le_of_eq hk.symm
 have h3:=Nat.le_of_eq hn
 have h4:=Nat.le_of_eq hn.symm
 have h5:=Nat.le_of_eq lO
 have h6:=Nat.le_of_eq lO.symm
 have HN:=hid hn
 clear hk hn lN lX hr
 generalize hBL0:b.length=BL0 at*
 have HBL:=hid hBL0
 clear hBL0
 go_enter Tryz.func64,Tryz.ntmps64
 go_wp2_with (first|((first|((with_reducible show qBx);first|(refine zH hm ?_)));clear hm;(first|(have hx_:=g1;clear hx_;(first|(have hx_:=g2;clear hx_;(first|(have hx_:=g3;clear hx_;(first|(have hx_:=g4;clear hx_;(first|(have hx_:=g5;clear hx_;intro gx_)|intro g5))|intro g4))|intro g3))|intro g2))|intro g1);intro w hm))
 refine wp_scope_goto 0 (fun a_ w_=>∃(k L e o d go gi:Nat)(q r:Option Addr)(i:BitVec 64)(IN:List Byte)(M:List Blk)(u6 u7 u11 u15 u16 u17 u18 u19 u20 u21 u22 u23 u24 u25 u26 u27 u28 u29 u30 u31 u32 u33 u34 u35 u36 u37 u38 u39 u40 u41 u42 u43 u44 u45 u46 u47 u48 u49 u50 u51 u52 u53 u54 u55 u56 u57 u58 u59 u60 u61 u62 u63 u64:Value),a_={tmps:= #[(A8 key),(A8 nonce),(.int .i64 12),(.slice q L e),(.pointer (some ⟨g1,0,none⟩)),(.pointer (some ⟨g2,0,none⟩)),u6,u7,(.slice none 0 0),(.int .i64 0),(.pointer (some ⟨go,0,none⟩)),u11,(.pointer (some ⟨gi,0,none⟩)),(.slice r o d),(v64 i),u15,u16,u17,u18,u19,u20,u21,u22,u23,u24,u25,u26,u27,u28,u29,u30,u31,u32,u33,u34,u35,u36,u37,u38,u39,u40,u41,u42,u43,u44,u45,u46,u47,u48,u49,u50,u51,u52,u53,u54,u55,u56,u57,u58,u59,u60,u61,u62,u63,u64],defers:=[]}∧SlO M 5 1 (.slice r o d) o ((F k).map v8)∧Own w0 w_ (M++[⟨gi,132,IN.map v8⟩,⟨go,121,O.map v8⟩,⟨g2,127,nonce.map v8⟩,⟨g1,121,key.map v8⟩])∧IN.length=16∧IN.drop 8=nonce.drop 16∧k≤n∧L=BL0-64*k∧L≤e∧i=BitVec.ofNat 64 k∧(0<L→RdB w0 q (b.drop (64*k)))) (fun a_ _=>slen (a_.tmps.getD 3 undef)) rfl ?_ ?_
 · clear hm
   have key_:∀(P_:Act→World→Prop),(∀(w_:World)(k L e o d go gi:Nat)(q r:Option Addr)(i:BitVec 64)(IN:List Byte)(M:List Blk)(u6 u7 u11 u15 u16 u17 u18 u19 u20 u21 u22 u23 u24 u25 u26 u27 u28 u29 u30 u31 u32 u33 u34 u35 u36 u37 u38 u39 u40 u41 u42 u43 u44 u45 u46 u47 u48 u49 u50 u51 u52 u53 u54 u55 u56 u57 u58 u59 u60 u61 u62 u63 u64:Value),SlO M 5 1 (.slice r o d) o ((F k).map v8)∧Own w0 w_ (M++[⟨gi,132,IN.map v8⟩,⟨go,121,O.map v8⟩,⟨g2,127,nonce.map v8⟩,⟨g1,121,key.map v8⟩])∧IN.length=16∧IN.drop 8=nonce.drop 16∧k≤n∧L=BL0-64*k∧L≤e∧i=BitVec.ofNat 64 k∧(0<L→RdB w0 q (b.drop (64*k)))→P_ {tmps:= #[(A8 key),(A8 nonce),(.int .i64 12),(.slice q L e),(.pointer (some ⟨g1,0,none⟩)),(.pointer (some ⟨g2,0,none⟩)),u6,u7,(.slice none 0 0),(.int .i64 0),(.pointer (some ⟨go,0,none⟩)),u11,(.pointer (some ⟨gi,0,none⟩)),(.slice r o d),(v64 i),u15,u16,u17,u18,u19,u20,u21,u22,u23,u24,u25,u26,u27,u28,u29,u30,u31,u32,u33,u34,u35,u36,u37,u38,u39,u40,u41,u42,u43,u44,u45,u46,u47,u48,u49,u50,u51,u52,u53,u54,u55,u56,u57,u58,u59,u60,u61,u62,u63,u64],defers:=[]} w_)→∀(a_:Act)(w_:World),(∃(k L e o d go gi:Nat)(q r:Option Addr)(i:BitVec 64)(IN:List Byte)(M:List Blk)(u6 u7 u11 u15 u16 u17 u18 u19 u20 u21 u22 u23 u24 u25 u26 u27 u28 u29 u30 u31 u32 u33 u34 u35 u36 u37 u38 u39 u40 u41 u42 u43 u44 u45 u46 u47 u48 u49 u50 u51 u52 u53 u54 u55 u56 u57 u58 u59 u60 u61 u62 u63 u64:Value),a_={tmps:= #[(A8 key),(A8 nonce),(.int .i64 12),(.slice q L e),(.pointer (some ⟨g1,0,none⟩)),(.pointer (some ⟨g2,0,none⟩)),u6,u7,(.slice none 0 0),(.int .i64 0),(.pointer (some ⟨go,0,none⟩)),u11,(.pointer (some ⟨gi,0,none⟩)),(.slice r o d),(v64 i),u15,u16,u17,u18,u19,u20,u21,u22,u23,u24,u25,u26,u27,u28,u29,u30,u31,u32,u33,u34,u35,u36,u37,u38,u39,u40,u41,u42,u43,u44,u45,u46,u47,u48,u49,u50,u51,u52,u53,u54,u55,u56,u57,u58,u59,u60,u61,u62,u63,u64],defers:=[]}∧SlO M 5 1 (.slice r o d) o ((F k).map v8)∧Own w0 w_ (M++[⟨gi,132,IN.map v8⟩,⟨go,121,O.map v8⟩,⟨g2,127,nonce.map v8⟩,⟨g1,121,key.map v8⟩])∧IN.length=16∧IN.drop 8=nonce.drop 16∧k≤n∧L=BL0-64*k∧L≤e∧i=BitVec.ofNat 64 k∧(0<L→RdB w0 q (b.drop (64*k))))→P_ a_ w_:=
     fun P_ h_ a_ w_ z=>z.elim fun k z=>z.elim fun L z=>z.elim fun e z=>z.elim fun o z=>z.elim fun d z=>z.elim fun go z=>z.elim fun gi z=>z.elim fun q z=>z.elim fun r z=>z.elim fun i z=>z.elim fun IN z=>z.elim fun M z=>z.elim fun u6 z=>z.elim fun u7 z=>z.elim fun u11 z=>z.elim fun u15 z=>z.elim fun u16 z=>z.elim fun u17 z=>z.elim fun u18 z=>z.elim fun u19 z=>z.elim fun u20 z=>z.elim fun u21 z=>z.elim fun u22 z=>z.elim fun u23 z=>z.elim fun u24 z=>z.elim fun u25 z=>z.elim fun u26 z=>z.elim fun u27 z=>z.elim fun u28 z=>z.elim fun u29 z=>z.elim fun u30 z=>z.elim fun u31 z=>z.elim fun u32 z=>z.elim fun u33 z=>z.elim fun u34 z=>z.elim fun u35 z=>z.elim fun u36 z=>z.elim fun u37 z=>z.elim fun u38 z=>z.elim fun u39 z=>z.elim fun u40 z=>z.elim fun u41 z=>z.elim fun u42 z=>z.elim fun u43 z=>z.elim fun u44 z=>z.elim fun u45 z=>z.elim fun u46 z=>z.elim fun u47 z=>z.elim fun u48 z=>z.elim fun u49 z=>z.elim fun u50 z=>z.elim fun u51 z=>z.elim fun u52 z=>z.elim fun u53 z=>z.elim fun u54 z=>z.elim fun u55 z=>z.elim fun u56 z=>z.elim fun u57 z=>z.elim fun u58 z=>z.elim fun u59 z=>z.elim fun u60 z=>z.elim fun u61 z=>z.elim fun u62 z=>z.elim fun u63 z=>z.elim fun u64 z=>Eq.subst (motive:=fun z_=>P_ z_ w_) z.1.symm (h_ w_ k L e o d go gi q r i IN M u6 u7 u11 u15 u16 u17 u18 u19 u20 u21 u22 u23 u24 u25 u26 u27 u28 u29 u30 u31 u32 u33 u34 u35 u36 u37 u38 u39 u40 u41 u42 u43 u44 u45 u46 u47 u48 u49 u50 u51 u52 u53 u54 u55 u56 u57 u58 u59 u60 u61 u62 u63 u64 z.2)
   refine key_ _ ?_
   clear key_
   intro w k L e o d go gi q r i IN M u6 u7 u11 u15 u16 u17 u18 u19 u20 u21 u22 u23 u24 u25 u26 u27 u28 u29 u30 u31 u32 u33 u34 u35 u36 u37 u38 u39 u40 u41 u42 u43 u44 u45 u46 u47 u48 u49 u50 u51 u52 u53 u54 u55 u56 u57 u58 u59 u60 u61 u62 u63 u64
   rintro ⟨hso,hm,hi1,hi2,hkn,hL,hLe,hiv,hrd⟩
   by_cases h0:L=0
   · have hkn2:k=n:=by
       apply Classical.byContradiction;intro h
       have:=NT.out k (by omega)
       omega
     subst hkn2
     subst h0
     obtain⟨_,_,hv,hnc0,_,_⟩:=hso.cells hm
     cases hv
     have ho:o=BL0:=by
       have h1:=hso.1
       rw [List.length_map,LB.out,Nat.mul_one]at h1
       have:=NL.out
       omega
     subst ho
     rw [←EL.out]at hso
     have HSO:=hid hso
     clear hso hnc0 hi1 hi2 hL hLe hiv hrd
     go_wp2_with fail
     simp only [Exit.jump]
     go_ret2
     exact⟨_,M,_,rfl,hm,HSO.out⟩
   · have hlt:k<n:=by
       apply Classical.byContradiction;intro h
       have hkn2:k=n:=by omega
       subst hkn2
       have:=NL.out
       omega
     have hrd1:=hid fun wx (hx:Ext w0 wx)=>(hrd (by omega)).ext hx
     have hrd0:=hid (hrd (by omega))
     have lD:(b.drop (64*k)).length=L:=by rw [List.length_drop,HBL.out,hL]
     have XR:=hid fun (wx:World)(r:Option Addr)(d:Nat)(h1:RdB wx q (b.drop (64*k)))(h2:RdB wx r (S k))=>XO.out k L e wx q r d lD h1 h2
     have lXX:(xorL (b.drop (64*k)) (S k)).length=min L 64:=by rw [xorL_length,lD,LX.out]
     have EKK:=hid (EK.out k)
     have BLL:=hid fun wx=>BL.out k IN hi1 hi2 wx
     have FL:=hid (LB.out k)
     have RDN:=hid fun (wx:World)(h:RdB wx q (b.drop (64*k)))(m:Nat)=>(show RdB wx (slP q e m) ((b.drop (64*k)).drop m)from h.slL e m (by rw [lD];exact hLe))
     have EDD:=hid (show(b.drop (64*k)).drop 64=b.drop (64*(k+1))by rw [List.drop_drop,Nat.mul_succ])
     obtain⟨m,hmL⟩:∃m,m=min L 64:=⟨_,rfl⟩
     rw [←hmL]at lXX
     have hm1:m≤L:=by omega
     have HML:=hid hmL
     have LXX:=hid lXX
     have HSO:=hid hso
     have HLE:=hid hLe
     have HL:=hid hL
     have HNK:=hid hlt
     have HIV:=hid hiv
     have LXM:=hid (show((xorL (b.drop (64*k)) (S k)).map v8).length=m*1 by rw [List.length_map,lXX,Nat.mul_one])
     have lSK:=LX.out k
     obtain⟨X,hX⟩:∃X,X=xorL (b.drop (64*k)) (S k):=⟨_,rfl⟩
     rw [←hX]at XR EKK LXX LXM
     obtain⟨SK,hSK⟩:=exq (S k)
     rw [←hSK]at XR BLL lSK
     have hfit:(o+m)*(1+1)≤140737488355328:=by
       have h1:=hso.1
       rw [List.length_map,FL.out,Nat.mul_one]at h1
       omega
     have HFIT:=hid hfit
     obtain⟨D0,hD0⟩:=exq (b.drop (64*k))
     rw [←hD0]at XR RDN hrd1 hrd0 EDD
     have e0:((L:Int)==0)=false:=by rw [beq_eq_false_iff_ne];omega
     have e1:¬(L:Int)=0:=by omega
     have lI1:=Nat.le_of_eq hi1
     have lI2:=Nat.le_of_eq hi1.symm
     have lK1:=Nat.le_of_eq lSK
     have lK2:=Nat.le_of_eq lSK.symm
     subst hiv
     clear hso hi2 hLe hrd lD lXX hX hSK hD0 hfit hL hmL
     go_wp2_with (first|(go_at_call 11;(with_reducible refine(putlong_any' _ _).mono ?_);rintro e_ w ⟨rfl,hx_⟩;replace hm:=hm.ext hx_;clear hx_)|((((with_reducible show qSt);first|(refine zE hm ?_)));clear hm;intro w hm)|((first|((with_reducible show qAl);first|(refine zG hm ?_)));clear hm;(first|(have hx_:=g1;clear hx_;(first|(have hx_:=g2;clear hx_;(first|(have hx_:=g3;clear hx_;(first|(have hx_:=g4;clear hx_;(first|(have hx_:=g5;clear hx_;intro gx_)|intro g5))|intro g4))|intro g3))|intro g2))|intro g1);intro w hm))
     refine rgE 2 65 ?_
     simp only [tSC,tZe,dSC,dZe,mCo,mNi]
     repeat (first
         | (apply walk_is rfl rfl rfl
            · (intro wx hwx;go_simp;(try go_bits);first|exact gives_same|exact gives_skip)
            · (simp only [Act.put,sIB,sCS,sCZ];rfl))
         | (apply walk_not rfl rfl rfl
            · (simp only [Act.put,sIB,sCS,sCZ];rfl)))
     intro wz hwz
     simp only [zCC,zNR]
     repeat (first|rw [fin_is]|(rw [fin_cons];intro _ _))
     rw [fin_nil]
     try (replace hm:=hm.ext hwz)
     simp only [Act.put,sIB,sCS,sCZ]
     ((with_reducible show wpList _ _ _ (Oper.mk _ (Op.call _) _ _ _ _::_) _ _);refine wpl_cp8 hm rfl rfl rfl rfl Tryz.underlying22 (by kernel_rfl) (by repeat (first|exact Swap.hd|assumption|apply Swap.tl|apply Swap.app)) (hm.rdB (l:=putL (BitVec.ofNat 64 k) 8) .hd) (putL_length _ _).symm (rfl) (by omega) ?_;clear hm;intro w hm)
     replace hm:=hm.drop
     obtain⟨I1,I2,_⟩:=BLL.out w
     have BM:=hid fun wx=>(BLL.out wx).2.2
     rw [show(putL (BitVec.ofNat 64 k) 8).take 8=putL (BitVec.ofNat 64 k) 8 from List.take_of_length_le (by rw [putL_length];omega)]at hm
     generalize over IN 0 (putL (BitVec.ofNat 64 k) 8)=IN2 at*
     have lJ1:=Nat.le_of_eq I1
     have lJ2:=Nat.le_of_eq I1.symm
     have HI2:=hid I2
     have HI1:=hid I1
     clear I2 BLL
     go_wp2_with (first|(go_at_call 80;(with_reducible refine(BM.out _).mono ?_);rintro e_ w ⟨rfl,hx_⟩;replace hm:=hm.ext hx_;clear hx_)|((with_reducible show qLd);first|(refine zB hm ?_))|((((with_reducible show qSt);first|(refine zE hm ?_)));clear hm;intro w hm)|((first|((with_reducible show qAl);first|(refine zG hm ?_)));clear hm;(first|(have hx_:=g1;clear hx_;(first|(have hx_:=g2;clear hx_;(first|(have hx_:=g3;clear hx_;(first|(have hx_:=g4;clear hx_;(first|(have hx_:=g5;clear hx_;intro gx_)|intro g5))|intro g4))|intro g3))|intro g2))|intro g1);intro w hm))
     refine(XR.out _ _ _ (hrd1.out _ hm.x) (hm.rdB (l:=SK) .hd)).mono ?_
     rintro e_ w ⟨x,rfl,⟨px,cx,rfl,hcx,hbx⟩,hx_⟩
     replace hm:=hm.ext hx_
     have HBX:=hid hbx
     clear hx_ hbx
     rw [LXX.out]at hcx⊢
     go_wp2_with (first|((with_reducible show wpList _ _ _ (Oper.mk _ (Op.call _) _ _ _ _::_) _ _);refine wplO_app (M:=M) (R:=_) (ds:=X.map v8) (hm.perm (List.perm_middle.symm)) HSO.out rfl rfl rfl rfl Tryz.underlying22 LXM.out (cells_b HBX.out) (one_map _) HFIT.out ?_;clear hm;intro v1 w M1 hm hs1;obtain⟨p_v1,c_v1,rfl⟩:=hs1.form;replace hm:=hm.perm (List.perm_middle))|((with_reducible apply wq_slL Tryz.underlying22);infer_instance;exact rfl;exact rfl;exact rfl;exact hm1;exact rfl))
     go_step3
     refine⟨rfl,⟨_,_,_,_,_,_,_,_,_,_,_,_,_,_,_,_,_,_,_,_,_,_,_,_,_,_,_,_,_,_,_,_,_,_,_,_,_,_,_,_,_,_,_,_,_,_,_,_,_,_,_,_,_,_,_,_,_,_,_,_,_,_,_,_,_,rfl,⟨(show SlO M1 5 1 _ (o+m) ((F (k+1)).map v8)from by rw [EKK.out,List.map_append];exact hs1),hm.drop,HI1.out,HI2.out,HNK.out,(show L-m=BL0-64*(k+1)from by rw [HML.out,HL.out];omega),(by have:=HLE.out;omega),(show BitVec.ofNat 64 k+1#64=BitVec.ofNat 64 (k+1)from by apply BitVec.eq_of_toNat_eq;simp),fun h=>(show RdB w0 (slP q e m) (b.drop (64*(k+1)))from by have h6:m=64:=(by have:=HML.out;omega);rw [h6,←EDD.out];exact RDN.out w0 hrd0.out 64)⟩⟩, ?_⟩
     simp [slen]
     have:=HML.out
     omega
 · intro hp
   go_wp2_with fail
   refine pregion 11 (Marks.of (OneV w0 [⟨g2,127,nonce.map v8⟩,⟨g1,121,key.map v8⟩] 121 ((zer 32).map v8) (O.map v8)) OneV.ext) [9,10] 65 (by kernel_rfl) (by kernel_rfl) rfl (OneV.start (hm.ext (drew_ext _))) ?_
   simp only [tSC,tZe,dSC,dZe,mCo,mNi]
   repeat (first
       |(apply pwalk_is rfl rfl rfl rfl;(intro vs_ wx hJ_;have hm:=OneV.low hJ_;(with_reducible apply gq_ldN hm);infer_instance;exact rfl;(focus ((repeat (first|exact .hd|assumption|apply Has.tl|apply Has.app));done));(exact EN.out);(exact(by rw [List.length_map];exact EN2.out)));(simp only [Act.put,sIB,sCS,sCZ];rfl))
       | (apply pwalk_mark (T:=[]) 0 [] rfl rfl rfl (by kernel_rfl) rfl
          · (intro vs_ wx hJ_ hn_ hD_;simp only [pwithS];obtain⟨hm,hK_⟩:=OneV.na hJ_ hn_;refine⟨rfl, ?_⟩;refine zG hm ?_;clear hm;intro g_ w_ hm;exact mark_end rfl (hK_ g_ _ hm)))
       | (apply pwalk_mark (T:=[(10,PMk 0)]) 1 [] rfl rfl rfl (by kernel_rfl) rfl
          · (intro vs_ wx hJ_ hn_ hD_;simp only [pwithS];intro x_ hx_;obtain⟨g_,rfl,hm,hK_⟩:=OneV.sa hJ_ hn_ hx_;refine⟨rfl, ?_⟩;(with_reducible apply wq_stW hm);exact rfl;infer_instance;exact rfl;exact rfl;(exact .hd);(focus (rw [List.length_map];exact lO));(focus (simp;done));(exact(one_map _));clear hm;intro w_ hm;exact mark_end rfl (fun u_=>hK_ u_ _ hm)))
       | (apply pwalk_is rfl rfl rfl rfl
          · (intro vs_ wx hJ_;have hm:=OneV.low hJ_;first|((with_reducible show qGl);first|(exact zJ hm)|(exact zK hm)|(exact zL hm))|(go_simp;(try go_bits);first|exact gives_same|exact gives_skip|with_reducible exact gives_call (SH.out wx)))
          · (simp only [Act.put,sIB,sCS,sCZ];rfl)))
   intro vs_ wz hJ_ hl_ hall_
   simp only [zCC,zNR]
   repeat rw [pfin_is]
   rw [pfin_cons];intro x10 hx10
   repeat rw [pfin_is]
   rw [pfin_cons];intro y10 hy10
   repeat rw [pfin_is]
   rw [pfin_nil]
   simp only [Act.put,sIB,sCS,sCZ]
   clear hm
   obtain⟨g3,rfl,hm⟩:=OneV.fin hJ_ hx10 (fun i hi=>hall_ i hi)
   clear hJ_ hl_ hall_ hx10 hy10 y10
   go_wp2_with (first|((first|((with_reducible show qAl);first|(refine zG hm ?_)));clear hm;(first|(have hx_:=g1;clear hx_;(first|(have hx_:=g2;clear hx_;(first|(have hx_:=g3;clear hx_;(first|(have hx_:=g4;clear hx_;(first|(have hx_:=g5;clear hx_;intro gx_)|intro g5))|intro g4))|intro g3))|intro g2))|intro g1);intro w hm))
   refine rgE 2 65 ?_
   simp only [tSC,tZe,dSC,dZe,mCo,mNi]
   repeat (first
       | (apply walk_is rfl rfl rfl
          · (intro wx hwx;go_simp;(try go_bits);first|exact gives_same|exact gives_skip)
          · (simp only [Act.put,sIB,sCS,sCZ];rfl))
       | (apply walk_not rfl rfl rfl
          · (simp only [Act.put,sIB,sCS,sCZ];rfl)))
   intro wz hwz
   simp only [zCC,zNR]
   repeat (first|rw [fin_is]|(rw [fin_cons];intro _ _))
   rw [fin_nil]
   try (replace hm:=hm.ext hwz)
   simp only [Act.put,sIB,sCS,sCZ]
   ((with_reducible show wpList _ _ _ (Oper.mk _ (Op.call _) _ _ _ _::_) _ _);refine wpl_cp8 hm rfl rfl rfl rfl Tryz.underlying22 (by kernel_rfl) (by repeat (first|exact Swap.hd|assumption|apply Swap.tl|apply Swap.app)) (hm.rdB_at (g:=g2) (k:=16) (l:=nonce) (by repeat (first|exact Has.hd|assumption|apply Has.tl|apply Has.app))) (by rw [List.length_drop,HN.out]) (rfl) (by rw [zer_length];omega) ?_;clear hm;intro w hm)
   obtain⟨HI1,HI2⟩:=HIN.out
   generalize over (zer 16) 8 ((nonce.drop 16).take 8)=IN at*
   go_wp2_with (first|((with_reducible apply wq_mkR 0 BL0 hm);exact rfl;exact rfl;exact rfl;exact rfl;(focus omega);(focus omega);(focus omega);clear hm;intro g5 w hm))
   rw [show(Value.int IntKind.u64 0)=v64 0#64 from rfl]
   go_step3
   rename_i hK
   exact hK _ _ (hp _ _ ⟨_,_,_,_,_,_,_,_,_,_,_,_,_,_,_,_,_,_,_,_,_,_,_,_,_,_,_,_,_,_,_,_,_,_,_,_,_,_,_,_,_,_,_,_,_,_,_,_,_,_,_,_,_,_,_,_,_,_,_,_,_,_,_,_,_,rfl,⟨by rw [E0.out];exact SlO.room _ _ 1 BL0 ((zeros BL0).map v8) (by simp) (by unfold maxLen;omega),hm,HI1,HI2,Nat.zero_le _,rfl,HC.out,rfl,fun _=>HR.out⟩⟩)
theorem ccrypt12(key nonce b:List Byte)(hk:key.length=32)(hn:nonce.length=24)(hb:b.length≤70368744177000)(p:Option Addr)(c:Nat)(w0:World)(hr:RdB w0 p b)(hc:b.length≤c):
   Calls Tryz.prog 64 #[A8 key,A8 nonce, .int .i64 12, .slice p b.length c] w0 fun e w'=>∃q d,e= .returned (.tuple #[.slice q b.length d, .int .i64 0])∧b.length≤d∧RdB w' q (xchL key nonce b)∧Ext w0 w':=by
 refine Calls.mono (ccrypt12o key nonce b hk hn hb p c w0 hr hc) ?_
 rintro e w ⟨v,M,R,rfl,hm,hs⟩
 obtain⟨q,d,hv,hnd,_⟩:=hs.cells hm
 subst hv
 exact⟨q,d,rfl,hnd,slo_rdZ hs hm,hm.x⟩
open Go
def wdB(key:List Byte)(i:Nat):List Byte:=putL ((wrd key (4*i)).setWidth 64) 4
theorem wdB_length(key:List Byte)(i:Nat):(wdB key i).length=4:=putL_length _ _
def rotW(w:List Byte):List Byte:=[nth w 1,nth w 2,nth w 3,nth w 0]
def exB(n:Nat)(lg:Bool)(o:Nat)(w:List Byte)(pw:Byte):List Byte:=
 if o%n=0 then setN (boxW (rotW w)) 0 (nth (boxW (rotW w)) 0^^^pw)else if lg=true∧o%n=4 then boxW w else w
def exP(n o:Nat)(pw:Byte):Byte:=if o%n=0 then dbl pw else pw
theorem exB_length(n:Nat)(lg:Bool)(o:Nat)(w:List Byte)(pw:Byte)(h:w.length=4):(exB n lg o w pw).length=4:=by
 unfold exB
 split
 · rw [setN_length,boxW_length]
 · split
   · exact boxW_length _
   · exact h
def exS(n:Nat)(lg:Bool)(key:List Byte):Nat→List (List Byte)×Byte
 |0=>((List.range n).map (wdB key),1#8)
 |j+1=>((exS n lg key j).1++[plus4 ((exS n lg key j).1.getD j []) (exB n lg (n+j) ((exS n lg key j).1.getD (n+j-1) []) (exS n lg key j).2)],exP n (n+j) (exS n lg key j).2)
theorem exS_length(n:Nat)(lg:Bool)(key:List Byte)(j:Nat):(exS n lg key j).1.length=n+j:=by
 induction j with
 |zero=>simp [exS]
 |succ j ih=>rw [exS,List.length_append,ih];rfl
theorem exS_each(n:Nat)(lg:Bool)(key:List Byte)(j:Nat):∀w∈(exS n lg key j).1,w.length=4:=by
 induction j with
 | zero=>
   intro w hw
   obtain⟨i,_,rfl⟩:=List.mem_map.1 hw
   exact wdB_length _ _
 | succ j ih=>
   intro w hw
   rcases List.mem_append.1 hw with h|h
   · exact ih w h
   · rw [List.mem_singleton.1 h];exact plus4_length _ _
def rkL(ws:List (List Byte))(i:Nat):List Byte:=((ws.drop (4*i)).take 4).flatten
theorem rkL_length(ws:List (List Byte))(h:∀w∈ws,w.length=4)(i:Nat)(hi:4*i+4≤ws.length):(rkL ws i).length=16:=by
 rw [rkL,flatten_length 4 _ (fun w hw=>h w (List.mem_of_mem_drop (List.mem_of_mem_take hw))),List.length_take,List.length_drop]
 omega
def rksL(ws:List (List Byte))(m:Nat):List (List Byte):=(List.range m).map (rkL ws)
theorem rksL_length(ws:List (List Byte))(m:Nat):(rksL ws m).length=m:=by simp [rksL]
theorem rksL_succ(ws:List (List Byte))(m:Nat):rksL ws (m+1)=rksL ws m++[rkL ws m]:=by simp [rksL,List.range_succ]
theorem rksL_each(ws:List (List Byte))(h:∀w∈ws,w.length=4)(m:Nat)(hm:4*m≤ws.length):∀k∈rksL ws m,k.length=16:=by
 intro k hk
 obtain⟨i,hi,rfl⟩:=List.mem_map.1 hk
 rw [List.mem_range]at hi
 exact rkL_length ws h i (by omega)
theorem three_of(ks:List (List Byte))(m:Nat)(h:ks.length=m+2):ks=ks.getD 0 []::((ks.drop 1).take m++[ks.getD (m+1) []]):=by
 refine List.ext_getElem? fun i=> ?_
 rcases i with _|i
 · rw [List.getElem?_cons_zero,List.getElem?_eq_getElem (by omega)];simp [List.getD_eq_getElem?_getD,List.getElem?_eq_getElem (show 0<ks.length by omega)]
 · rw [List.getElem?_cons_succ,List.getElem?_append,List.length_take,List.length_drop]
   split
   · rename_i hi
     rw [List.getElem?_take,if_pos (by omega),List.getElem?_drop,Nat.add_comm 1 i]
   · rename_i hi
     by_cases e:i=m
     · subst e
       rw [show i-min i (ks.length-1)=0 by omega]
       simp [List.getD_eq_getElem?_getD,List.getElem?_eq_getElem (show i+1<ks.length by omega)]
     · rw [List.getElem?_eq_none (by omega),List.getElem?_eq_none (by simp;omega)]
def aesK(n:Nat)(lg:Bool)(key:List Byte):List (List Byte):=rksL (exS n lg key (3*n+28)).1 (n+7)
def aesK0(n:Nat)(lg:Bool)(key:List Byte):List Byte:=(aesK n lg key).getD 0 []
def aesKs(n:Nat)(lg:Bool)(key:List Byte):List (List Byte):=((aesK n lg key).drop 1).take (n+5)
def aesKl(n:Nat)(lg:Bool)(key:List Byte):List Byte:=(aesK n lg key).getD (n+6) []
theorem aesK_three(n:Nat)(lg:Bool)(key:List Byte):aesK n lg key=aesK0 n lg key::(aesKs n lg key++[aesKl n lg key]):=three_of _ (n+5) (rksL_length _ _)
theorem aesKs_length(n:Nat)(lg:Bool)(key:List Byte):(aesKs n lg key).length=n+5:=by
 rw [aesKs,List.length_take,List.length_drop,aesK,rksL_length];omega
theorem expand_gen(gt gb n:Nat)(lg:Bool)(key:List Byte)(h4:4≤n)(h8:n≤8)(hk:key.length=4*n)(p:Option Addr)(c:Nat)(w0:World)(hr:RdB w0 p key)(hc:key.length≤c)(ht:Row w0 gt 88 (tcells gb mixT unmixT))(hb:Row w0 gb 113 (tabs.map v8))
   (E:Nat→List (List Byte)×Byte) (hE:E=exS n lg key) (K0 KZ:List Byte) (KM:List (List Byte)) (hk0:K0=aesK0 n lg key) (hkm:KM=aesKs n lg key) (hkz:KZ=aesKl n lg key) (SH:Hid (∀w,Calls Tryz.prog 82 #[.int .i64 (key.length:Int)] w fun e w'=>e= .returned (.tuple #[.int .i64 (n:Int), .bool lg, .int .i64 0])∧w=w')):
   Calls Tryz.prog 65 #[.pointer (some ⟨gt,0,none⟩), .slice p key.length c] w0 fun e w'=>∃g L,e= .returned (.tuple #[.pointer (some ⟨g,0,none⟩), .int .i64 0])∧w0.heap.size≤g∧Own w0 w' L∧Keeps L (TabR gt gb) (fun wx=>AesR wx g K0 KM KZ):=by
 have hm:=Own.start w0
 have W1:=hid fun (k:Nat)(hk4:k<n)(w:World)(h:Ext w0 w)=>(show Gives Tryz.prog 84 #[.slice p key.length c, .int .i64 (4*(k:Int))] w (v32 (wrd key (4*k)))from by
   have:=word_any key p c (4*(k:Int)) w (hr.ext h) (by omega) (by omega) (by omega)
   rw [wrd,show((4*k:Nat):Int)=4*(k:Int)from by omega]
   exact this)
 have W2:=hid fun (k:Nat)(w:World)=>(show Gives Tryz.prog 83 #[v32 (wrd key (4*k))] w (A8 (wdB key k))from putword_any _ w)
 have W3:=hid fun k=>wdB_length key k
 have TB:=hid ht
 have BB:=hid hb
 generalize hL:key.length=KL at*
 have e7:4*((n:Int)+6+1)=((4*(n+7):Nat):Int):=by omega
 have hn0:¬(n:Int)=0:=by omega
 have hn1:(0:Int)≤(n:Int):=by omega
 have hn2:(n:Int)≤8:=by omega
 have HKL:=hid hk
 have HC:=hid hc
 clear hr ht hb hL hk hc
 have LE:=hid fun k=>hE ▸ exS_length n lg key k
 have EE:=hid fun k=>hE ▸ exS_each n lg key k
 have E0:Hid ((E 0).1=(List.range n).map (wdB key)):=hid (by rw [hE];rfl)
 have E0p:Hid ((E 0).2=1#8):=hid (by rw [hE];rfl)
 have ES:Hid (∀j,(E (j+1)).1=(E j).1++[plus4 ((E j).1.getD j []) (exB n lg (n+j) ((E j).1.getD (n+j-1) []) (E j).2)]):=hid fun j=>by rw [hE];rfl
 have ESp:Hid (∀j,(E (j+1)).2=exP n (n+j) (E j).2):=hid fun j=>by rw [hE];rfl
 have EF:Hid (aesK n lg key=rksL (E (3*n+28)).1 (n+7)):=hid (by rw [hE];rfl)
 have ET:Hid (aesK n lg key=K0::(KM++[KZ])):=hid (by rw [hk0,hkm,hkz];exact aesK_three n lg key)
 have EL:Hid (KM.length=n+5):=hid (by rw [hkm];exact aesKs_length n lg key)
 clear hE hk0 hkm hkz
 generalize aesK n lg key=KS at*
 go_enter Tryz.func65,Tryz.ntmps65
 go_wp2_with fail
 refine wp_scope_goto 0 (fun a_ w_=>∃(j o d:Nat)(r:Option Addr)(pw:Byte)(M:List Blk)(u2 u3 u10 u12 u13 u14 u15 u16 u17 u18 u19 u20 u21 u22 u23 u24 u25 u26 u27 u28 u29 u30 u31 u32 u33 u34 u35 u36 u37 u38 u39 u40 u41 u42 u43 u44 u45 u46 u47 u48 u49 u50 u51 u52 u53 u54 u55 u56 u57 u58 u59 u60 u61 u62 u63 u64 u65 u66 u67 u68 u69 u70 u71 u72 u73 u74 u75 u76 u77 u78 u79 u80 u81 u82 u83 u84 u85 u86 u87 u88 u89 u90 u91 u92 u93 u94 u95 u96 u97 u98 u99 u100 u101 u102 u103 u104 u105 u106 u107 u108 u109 u110 u111 u112 u113 u114 u115 u116 u117 u118 u119 u120 u121 u122 u123 u124 u125 u126 u127 u128 u129 u130 u131 u132 u133:Value),a_={tmps:= #[(.pointer (some ⟨gt,0,none⟩)),(.slice p KL c),u2,u3,(.pointer none),(.int .i64 0),(.int .i64 (n:Int)),(.bool lg),(.int .i64 0),(.slice r o d),u10,(v8 pw),u12,u13,u14,u15,u16,u17,u18,u19,u20,u21,u22,u23,u24,u25,u26,u27,u28,u29,u30,u31,u32,u33,u34,u35,u36,u37,u38,u39,u40,u41,u42,u43,u44,u45,u46,u47,u48,u49,u50,u51,u52,u53,u54,u55,u56,u57,u58,u59,u60,u61,u62,u63,u64,u65,u66,u67,u68,u69,u70,u71,u72,u73,u74,u75,u76,u77,u78,u79,u80,u81,u82,u83,u84,u85,u86,u87,u88,u89,u90,u91,u92,u93,u94,u95,u96,u97,u98,u99,u100,u101,u102,u103,u104,u105,u106,u107,u108,u109,u110,u111,u112,u113,u114,u115,u116,u117,u118,u119,u120,u121,u122,u123,u124,u125,u126,u127,u128,u129,u130,u131,u132,u133],defers:=[]}∧SlO M 156 4 (.slice r o d) o (catV (E j).1)∧Own w0 w_ (M++[])∧o=n+j∧j<3*n+28∧pw=(E j).2) (fun a_ _=>4*(n+7)-slen (a_.tmps.getD 9 undef)) rfl ?_ ?_
 · clear hm
   have key_:∀(P_:Act→World→Prop),(∀(w_:World)(j o d:Nat)(r:Option Addr)(pw:Byte)(M:List Blk)(u2 u3 u10 u12 u13 u14 u15 u16 u17 u18 u19 u20 u21 u22 u23 u24 u25 u26 u27 u28 u29 u30 u31 u32 u33 u34 u35 u36 u37 u38 u39 u40 u41 u42 u43 u44 u45 u46 u47 u48 u49 u50 u51 u52 u53 u54 u55 u56 u57 u58 u59 u60 u61 u62 u63 u64 u65 u66 u67 u68 u69 u70 u71 u72 u73 u74 u75 u76 u77 u78 u79 u80 u81 u82 u83 u84 u85 u86 u87 u88 u89 u90 u91 u92 u93 u94 u95 u96 u97 u98 u99 u100 u101 u102 u103 u104 u105 u106 u107 u108 u109 u110 u111 u112 u113 u114 u115 u116 u117 u118 u119 u120 u121 u122 u123 u124 u125 u126 u127 u128 u129 u130 u131 u132 u133:Value),SlO M 156 4 (.slice r o d) o (catV (E j).1)∧Own w0 w_ (M++[])∧o=n+j∧j<3*n+28∧pw=(E j).2→P_ {tmps:= #[(.pointer (some ⟨gt,0,none⟩)),(.slice p KL c),u2,u3,(.pointer none),(.int .i64 0),(.int .i64 (n:Int)),(.bool lg),(.int .i64 0),(.slice r o d),u10,(v8 pw),u12,u13,u14,u15,u16,u17,u18,u19,u20,u21,u22,u23,u24,u25,u26,u27,u28,u29,u30,u31,u32,u33,u34,u35,u36,u37,u38,u39,u40,u41,u42,u43,u44,u45,u46,u47,u48,u49,u50,u51,u52,u53,u54,u55,u56,u57,u58,u59,u60,u61,u62,u63,u64,u65,u66,u67,u68,u69,u70,u71,u72,u73,u74,u75,u76,u77,u78,u79,u80,u81,u82,u83,u84,u85,u86,u87,u88,u89,u90,u91,u92,u93,u94,u95,u96,u97,u98,u99,u100,u101,u102,u103,u104,u105,u106,u107,u108,u109,u110,u111,u112,u113,u114,u115,u116,u117,u118,u119,u120,u121,u122,u123,u124,u125,u126,u127,u128,u129,u130,u131,u132,u133],defers:=[]} w_)→∀(a_:Act)(w_:World),(∃(j o d:Nat)(r:Option Addr)(pw:Byte)(M:List Blk)(u2 u3 u10 u12 u13 u14 u15 u16 u17 u18 u19 u20 u21 u22 u23 u24 u25 u26 u27 u28 u29 u30 u31 u32 u33 u34 u35 u36 u37 u38 u39 u40 u41 u42 u43 u44 u45 u46 u47 u48 u49 u50 u51 u52 u53 u54 u55 u56 u57 u58 u59 u60 u61 u62 u63 u64 u65 u66 u67 u68 u69 u70 u71 u72 u73 u74 u75 u76 u77 u78 u79 u80 u81 u82 u83 u84 u85 u86 u87 u88 u89 u90 u91 u92 u93 u94 u95 u96 u97 u98 u99 u100 u101 u102 u103 u104 u105 u106 u107 u108 u109 u110 u111 u112 u113 u114 u115 u116 u117 u118 u119 u120 u121 u122 u123 u124 u125 u126 u127 u128 u129 u130 u131 u132 u133:Value),a_={tmps:= #[(.pointer (some ⟨gt,0,none⟩)),(.slice p KL c),u2,u3,(.pointer none),(.int .i64 0),(.int .i64 (n:Int)),(.bool lg),(.int .i64 0),(.slice r o d),u10,(v8 pw),u12,u13,u14,u15,u16,u17,u18,u19,u20,u21,u22,u23,u24,u25,u26,u27,u28,u29,u30,u31,u32,u33,u34,u35,u36,u37,u38,u39,u40,u41,u42,u43,u44,u45,u46,u47,u48,u49,u50,u51,u52,u53,u54,u55,u56,u57,u58,u59,u60,u61,u62,u63,u64,u65,u66,u67,u68,u69,u70,u71,u72,u73,u74,u75,u76,u77,u78,u79,u80,u81,u82,u83,u84,u85,u86,u87,u88,u89,u90,u91,u92,u93,u94,u95,u96,u97,u98,u99,u100,u101,u102,u103,u104,u105,u106,u107,u108,u109,u110,u111,u112,u113,u114,u115,u116,u117,u118,u119,u120,u121,u122,u123,u124,u125,u126,u127,u128,u129,u130,u131,u132,u133],defers:=[]}∧SlO M 156 4 (.slice r o d) o (catV (E j).1)∧Own w0 w_ (M++[])∧o=n+j∧j<3*n+28∧pw=(E j).2)→P_ a_ w_:=
     fun P_ h_ a_ w_ z=>z.elim fun j z=>z.elim fun o z=>z.elim fun d z=>z.elim fun r z=>z.elim fun pw z=>z.elim fun M z=>z.elim fun u2 z=>z.elim fun u3 z=>z.elim fun u10 z=>z.elim fun u12 z=>z.elim fun u13 z=>z.elim fun u14 z=>z.elim fun u15 z=>z.elim fun u16 z=>z.elim fun u17 z=>z.elim fun u18 z=>z.elim fun u19 z=>z.elim fun u20 z=>z.elim fun u21 z=>z.elim fun u22 z=>z.elim fun u23 z=>z.elim fun u24 z=>z.elim fun u25 z=>z.elim fun u26 z=>z.elim fun u27 z=>z.elim fun u28 z=>z.elim fun u29 z=>z.elim fun u30 z=>z.elim fun u31 z=>z.elim fun u32 z=>z.elim fun u33 z=>z.elim fun u34 z=>z.elim fun u35 z=>z.elim fun u36 z=>z.elim fun u37 z=>z.elim fun u38 z=>z.elim fun u39 z=>z.elim fun u40 z=>z.elim fun u41 z=>z.elim fun u42 z=>z.elim fun u43 z=>z.elim fun u44 z=>z.elim fun u45 z=>z.elim fun u46 z=>z.elim fun u47 z=>z.elim fun u48 z=>z.elim fun u49 z=>z.elim fun u50 z=>z.elim fun u51 z=>z.elim fun u52 z=>z.elim fun u53 z=>z.elim fun u54 z=>z.elim fun u55 z=>z.elim fun u56 z=>z.elim fun u57 z=>z.elim fun u58 z=>z.elim fun u59 z=>z.elim fun u60 z=>z.elim fun u61 z=>z.elim fun u62 z=>z.elim fun u63 z=>z.elim fun u64 z=>z.elim fun u65 z=>z.elim fun u66 z=>z.elim fun u67 z=>z.elim fun u68 z=>z.elim fun u69 z=>z.elim fun u70 z=>z.elim fun u71 z=>z.elim fun u72 z=>z.elim fun u73 z=>z.elim fun u74 z=>z.elim fun u75 z=>z.elim fun u76 z=>z.elim fun u77 z=>z.elim fun u78 z=>z.elim fun u79 z=>z.elim fun u80 z=>z.elim fun u81 z=>z.elim fun u82 z=>z.elim fun u83 z=>z.elim fun u84 z=>z.elim fun u85 z=>z.elim fun u86 z=>z.elim fun u87 z=>z.elim fun u88 z=>z.elim fun u89 z=>z.elim fun u90 z=>z.elim fun u91 z=>z.elim fun u92 z=>z.elim fun u93 z=>z.elim fun u94 z=>z.elim fun u95 z=>z.elim fun u96 z=>z.elim fun u97 z=>z.elim fun u98 z=>z.elim fun u99 z=>z.elim fun u100 z=>z.elim fun u101 z=>z.elim fun u102 z=>z.elim fun u103 z=>z.elim fun u104 z=>z.elim fun u105 z=>z.elim fun u106 z=>z.elim fun u107 z=>z.elim fun u108 z=>z.elim fun u109 z=>z.elim fun u110 z=>z.elim fun u111 z=>z.elim fun u112 z=>z.elim fun u113 z=>z.elim fun u114 z=>z.elim fun u115 z=>z.elim fun u116 z=>z.elim fun u117 z=>z.elim fun u118 z=>z.elim fun u119 z=>z.elim fun u120 z=>z.elim fun u121 z=>z.elim fun u122 z=>z.elim fun u123 z=>z.elim fun u124 z=>z.elim fun u125 z=>z.elim fun u126 z=>z.elim fun u127 z=>z.elim fun u128 z=>z.elim fun u129 z=>z.elim fun u130 z=>z.elim fun u131 z=>z.elim fun u132 z=>z.elim fun u133 z=>Eq.subst (motive:=fun z_=>P_ z_ w_) z.1.symm (h_ w_ j o d r pw M u2 u3 u10 u12 u13 u14 u15 u16 u17 u18 u19 u20 u21 u22 u23 u24 u25 u26 u27 u28 u29 u30 u31 u32 u33 u34 u35 u36 u37 u38 u39 u40 u41 u42 u43 u44 u45 u46 u47 u48 u49 u50 u51 u52 u53 u54 u55 u56 u57 u58 u59 u60 u61 u62 u63 u64 u65 u66 u67 u68 u69 u70 u71 u72 u73 u74 u75 u76 u77 u78 u79 u80 u81 u82 u83 u84 u85 u86 u87 u88 u89 u90 u91 u92 u93 u94 u95 u96 u97 u98 u99 u100 u101 u102 u103 u104 u105 u106 u107 u108 u109 u110 u111 u112 u113 u114 u115 u116 u117 u118 u119 u120 u121 u122 u123 u124 u125 u126 u127 u128 u129 u130 u131 u132 u133 z.2)
   refine key_ _ ?_
   clear key_
   intro w j o d r pw M u2 u3 u10 u12 u13 u14 u15 u16 u17 u18 u19 u20 u21 u22 u23 u24 u25 u26 u27 u28 u29 u30 u31 u32 u33 u34 u35 u36 u37 u38 u39 u40 u41 u42 u43 u44 u45 u46 u47 u48 u49 u50 u51 u52 u53 u54 u55 u56 u57 u58 u59 u60 u61 u62 u63 u64 u65 u66 u67 u68 u69 u70 u71 u72 u73 u74 u75 u76 u77 u78 u79 u80 u81 u82 u83 u84 u85 u86 u87 u88 u89 u90 u91 u92 u93 u94 u95 u96 u97 u98 u99 u100 u101 u102 u103 u104 u105 u106 u107 u108 u109 u110 u111 u112 u113 u114 u115 u116 u117 u118 u119 u120 u121 u122 u123 u124 u125 u126 u127 u128 u129 u130 u131 u132 u133
   rintro ⟨hso,hm,ho,hj,hpw⟩
   have HSO:=hid hso
   have lE:=LE.out j
   have EEj:=EE.out j
   obtain⟨rd0,rd1,rd2⟩:=slo_rdN (by omega) hso EEj hm
   clear rd1
   have o60:(o:Int)≤60:=by omega
   have o4:4≤(o:Int):=by omega
   obtain⟨a,rfl⟩:=rd0.addr (by omega) (by omega)
   have RW:=hid fun (wx:World)(hx:Own w0 wx (M++[]))=>(slo_rdN (by omega) hso EEj hx).1
   have RJ:=hid fun (wx:World)(hx:Own w0 wx (M++[]))=>(show RdB wx (some (a.add (j*4))) ((E j).1.getD j [])from((RW.out wx hx).at (by omega) j (by omega)).1)
   have RL:=hid fun (wx:World)(hx:Own w0 wx (M++[]))=>(show RdB wx (some (a.add ((o-1)*4))) ((E j).1.getD (o-1) [])from((RW.out wx hx).at (by omega) (o-1) (by omega)).1)
   have l1:((E j).1.getD j []).length=4:=(rd0.at (by omega) j (by omega)).2
   have l2:((E j).1.getD (o-1) []).length=4:=(rd0.at (by omega) (o-1) (by omega)).2
   have ESj:=hid (ES.out j)
   have ESpj:=hid (ESp.out j)
   rw [show n+j=o from ho.symm,←hpw]at ESj ESpj
   generalize (E j).1.getD j []=WJ at*
   generalize (E j).1.getD (o-1) []=WL at*
   have LW:=hid l2
   have LJ:=hid l1
   have hm0:(o:Int).tmod (n:Int)=((o%n:Nat):Int):=rfl
   have t1:((o:Int)-1).toNat=o-1:=by omega
   have x1:(0:Int)≤(o:Int)-1:=by omega
   have x2:(o:Int)-1<(o:Int):=by omega
   have BX:=hid fun (w:World)(h:Ext w0 w)(x:List Byte)(hx:x.length=4)=>aboxed_any gt gb x hx w (row_ext TB.out h) (row_ext BB.out h)
   have HJ:=hid hj
   have HO:=hid ho
   have HPW:=hid hpw
   have HD:=hid rd2
   have l3:=exB_length n lg o WL pw l2
   clear hso rd0 EEj lE hpw ho hj rd2
   go_upto_block 2 with (first|((with_reducible apply wq_rdW (RL.out _ hm));exact rfl;infer_instance;exact rfl;exact LW.out)|((((with_reducible show qSt);first|(refine zE hm ?_)));clear hm;intro w hm)|((first|((with_reducible show qAl);first|(refine zG hm ?_)));clear hm;(first|(have hx_:=g1;clear hx_;(first|(have hx_:=g2;clear hx_;intro gx_)|intro g2))|intro g1);intro w hm))
   simp only [Act.put,sIB,sCS,sCZ]
   go_cut [11]from 51 to 86 (fun vp wc=>vp=v8 (exP n o pw)∧Own w0 wc (⟨g1,156,(exB n lg o WL pw).map v8⟩::(M++[])))
   case first=>
     by_cases h0:o%n=0
     · have eB:exB n lg o WL pw=setN (boxW (rotW WL)) 0 (nth (boxW (rotW WL)) 0^^^pw):=if_pos h0
       have eP:exP n o pw=dbl pw:=if_pos h0
       have BR:=hid fun (w:World)(h:Ext w0 w)=>BX.out w h (rotW WL) rfl
       have BW:=hid fun w=>(show(Instr.build 156 #[(0,v8 (nth WL 1)),(1,v8 (nth WL 2)),(2,v8 (nth WL 3)),(3,v8 (nth WL 0))]).run Tryz.prog w= .ok (A8 (rotW WL)) w from build_word _ _ _ _ w)
       have lR:(boxW (rotW WL)).length=4:=boxW_length _
       have EB:=hid eB
       have EP:=hid eP
       generalize rotW WL=RR at*
       generalize boxW RR=ZZ at*
       rw [h0]at hm0
       have b0:(((0:Nat):Int)==0)=true:=rfl
       clear eB eP h0
       go_wp2_with (first|((with_reducible apply wq_build4 BW.out);exact rfl;exact rfl;exact rfl;exact rfl;exact rfl)|(go_at_call 85;(with_reducible refine(BR.out _ hm.x).mono ?_);rintro e_ w ⟨rfl,hx_⟩;replace hm:=hm.ext hx_;clear hx_)|(go_at_call 49;(with_reducible refine(double_any _ _).mono ?_);rintro e_ w' ⟨rfl,rfl⟩)|((with_reducible show qLd);first|(refine zA hm ?_))|((((with_reducible show qSt);first|(refine zD hm ?_)|(refine zE hm ?_)));clear hm;intro w hm))
       go_meet
       rw [EB.out,EP.out]
       exact⟨rfl,hm⟩
     · obtain⟨q,hq⟩:∃q,q=o%n:=⟨_,rfl⟩
       have q8:q<n:=by rw [hq];exact Nat.mod_lt _ (by omega)
       have eP:exP n o pw=pw:=if_neg h0
       rw [←hq]at hm0 h0
       have b0:((q:Int)==0)=false:=by rw [beq_eq_false_iff_ne];omega
       have b1:¬(q:Int)=0:=by omega
       have EP:=hid eP
       by_cases h1:lg=true∧q=4
       · obtain⟨rfl,rfl⟩:=h1
         have eB:exB n true o WL pw=boxW WL:=by rw [exB,if_neg (by omega),if_pos ⟨rfl,by omega⟩]
         have EB:=hid eB
         have BR:=hid fun (w:World)(h:Ext w0 w)=>BX.out w h WL LW.out
         have lR:(boxW WL).length=4:=boxW_length _
         generalize boxW WL=ZZ at*
         have l5:=Nat.le_of_eq LW.out
         have l6:=Nat.le_of_eq LW.out.symm
         have b4:(((4:Nat):Int)==4)=true:=rfl
         clear eB eP h0 hq
         go_wp2_with (first|(go_at_call 85;(with_reducible refine(BR.out _ hm.x).mono ?_);rintro e_ w ⟨rfl,hx_⟩;replace hm:=hm.ext hx_;clear hx_)|((with_reducible show qLd);first|(refine zB hm ?_))|((((with_reducible show qSt);first|(refine zE hm ?_)));clear hm;intro w hm))
         go_meet
         rw [EB.out,EP.out]
         exact⟨rfl,hm⟩
       · have eB:exB n lg o WL pw=WL:=by rw [exB,if_neg (by omega),if_neg (by rw [←hq];exact h1)]
         have EB:=hid eB
         have b4:lg=true→((q:Int)==4)=false:=fun h=>by rw [beq_eq_false_iff_ne];intro h2;exact h1 ⟨h,by omega⟩
         clear eB eP h0 hq
         cases hlg:lg with
         | false=>
           subst hlg
           clear b4 h1
           go_wp2_with fail
           go_meet
           rw [EB.out,EP.out]
           exact⟨rfl,hm⟩
         | true=>
           subst hlg
           have b5:=b4 rfl
           have b6:¬(q:Int)=4:=fun h=>h1 ⟨rfl,by omega⟩
           clear b4 h1
           go_wp2_with fail
           go_meet
           rw [EB.out,EP.out]
           exact⟨rfl,hm⟩
   obtain⟨rfl,hc⟩:=hcut
   clear hm
   obtain⟨w,rfl⟩:∃w_,w_=wc:=⟨_,rfl⟩
   have hm:=hc
   clear hc
   have AP:=hid fun (w:World)=>aplus_any WJ (exB n lg o WL pw) LJ.out l3 w
   have lNW:=plus4_length WJ (exB n lg o WL pw)
   generalize plus4 WJ (exB n lg o WL pw)=NW at*
   generalize exB n lg o WL pw=W2 at*
   generalize exP n o pw=P2 at*
   have LNW:=hid lNW
   have BW:=hid (bs_word NW lNW)
   have LC:=hid (show(catV [NW]).length=1*4 by rw [catV_length 4 [NW] (by intro x hx;rw [List.mem_singleton.1 hx];exact lNW)];rfl)
   have t2:((o:Int)-(n:Int)).toNat=j:=by have:=HO.out;omega
   have x3:(0:Int)≤(o:Int)-(n:Int):=by have:=HO.out;omega
   have x4:(o:Int)-(n:Int)<(o:Int):=by omega
   have x5:(n:Int)≤(o:Int):=by have:=HO.out;omega
   have x6:(0:Int)<(n:Int):=by omega
   have hfit:(o+1)*(4+1)≤140737488355328:=by omega
   have hmA:=hm
   have RJ2:=hid fun wx (h:Ext w wx)=>RJ.out wx ((hmA.ext h).drop)
   clear hmA lNW
   go_wp2_with fail
   refine rgE 11 134 ?_
   simp only [tSC,tZe,dSC,dZe,mCo,mNi]
   repeat (first
       | (apply walk_is rfl rfl rfl
          · (intro wx hwx;(with_reducible apply gq_rdW ((RJ2.out) wx hwx));infer_instance;exact rfl;(focus (first|rfl|omega|(simp;done)|(simp;omega))))
          · (simp only [Act.put,sIB,sCS,sCZ];rfl))
       |(apply walk_some (KeysN 4 [NW]) 97 (KeysN.stable _ _) rfl rfl rfl rfl;(intro wx hwx;exact gq_bsN1 LNW.out (BW.out wx) rfl))
       | (apply walk_is rfl rfl rfl
          · (intro wx hwx;first|((with_reducible show qGl);first|(exact zK (hm.ext hwx)))|(go_simp;(try go_bits);first|exact gives_same|exact gives_skip|with_reducible exact gives_call (AP.out wx)))
          · (simp only [Act.put,sIB,sCS,sCZ];rfl))
       | (apply walk_not rfl rfl rfl
          · (simp only [Act.put,sIB,sCS,sCZ];rfl)))
   intro wz hwz
   simp only [zCC,zNR]
   repeat (first|rw [fin_is]|(rw [fin_cons];intro _ _))
   rw [fin_nil]
   try (replace hm:=hm.ext hwz)
   simp only [Act.put,sIB,sCS,sCZ]
   rename_i x97 hx97
   obtain⟨pn,cn,rfl,hcn,hkn⟩:=hx97
   have HKN:=hid hkn
   clear hcn hkn
   by_cases hlast:o+1<4*(n+7)
   · have b7:decide ((o:Int)+1<4*((n:Int)+6+1))=true:=decide_eq_true (by omega)
     have b8:(o:Int)+1<4*((n:Int)+6+1):=by omega
     go_wp2_with (first|((with_reducible show wpList _ _ _ (Oper.mk _ (Op.call _) _ _ _ _::_) _ _);refine wplO_app (M:=M) (R:=_) (ds:=catV [NW]) (hm.perm (List.perm_middle.symm)) HSO.out rfl rfl rfl rfl Tryz.underlying155 LC.out (HKN.out.cells) (catV_one _) hfit ?_;clear hm;intro v1 w M1 hm hs1;obtain⟨p_v1,c_v1,rfl⟩:=hs1.form;replace hm:=hm.perm (List.perm_middle)))
     go_step3
     refine⟨rfl,⟨_,_,_,_,_,_,_,_,_,_,_,_,_,_,_,_,_,_,_,_,_,_,_,_,_,_,_,_,_,_,_,_,_,_,_,_,_,_,_,_,_,_,_,_,_,_,_,_,_,_,_,_,_,_,_,_,_,_,_,_,_,_,_,_,_,_,_,_,_,_,_,_,_,_,_,_,_,_,_,_,_,_,_,_,_,_,_,_,_,_,_,_,_,_,_,_,_,_,_,_,_,_,_,_,_,_,_,_,_,_,_,_,_,_,_,_,_,_,_,_,_,_,_,_,_,_,_,_,_,_,_,rfl,⟨by rw [ESj.out,catV_append];exact hs1,hm.drop,by have:=HO.out;omega,by have:=HO.out;omega,ESpj.out.symm⟩⟩, ?_⟩
     simp [slen]
     omega
   · have b7 : decide ((o:Int)+1<4*((n:Int)+6+1))=false:=decide_eq_false (by omega)
     have b8:¬(o:Int)+1<4*((n:Int)+6+1):=by omega
     have hj28:j+1=3*n+28:=by have:=HO.out;have:=HJ.out;omega
     have LEf:=LE.out (j+1)
     have EEf:=EE.out (j+1)
     have EFf:=EF.out
     rw [←hj28]at EFf
     have BK:=hid fun w=>build_key gt w
     go_wp2_with (first|((with_reducible show wpList _ _ _ (Oper.mk _ (Op.call _) _ _ _ _::_) _ _);refine wplO_app (M:=M) (R:=_) (ds:=catV [NW]) (hm.perm (List.perm_middle.symm)) HSO.out rfl rfl rfl rfl Tryz.underlying155 LC.out (HKN.out.cells) (catV_one _) hfit ?_;clear hm;intro v1 w M1 hm hs1;obtain⟨p_v1,c_v1,rfl⟩:=hs1.form;replace hm:=hm.perm (List.perm_middle))|((with_reducible apply wq_build1 BK.out);exact rfl;exact rfl)|((first|((with_reducible show qBx);first|(refine zH hm ?_)));clear hm;(first|(have hx_:=g1;clear hx_;(first|(have hx_:=g2;clear hx_;intro gx_)|intro g2))|intro g1);intro w hm))
     rw [←catV_append,←ESj.out]at hs1
     clear HSO LC HKN hfit RJ2 RJ RL RW
     have hwl:o+1=4*n+28:=by omega
     have RW:=hid fun (wx:World)(L:List Blk)(hx:Own w0 wx (L++(M1++[])))=>slo_rdN (by omega) hs1 EEf hx.dropN
     obtain⟨_,ho1,hoc⟩:=RW.out w [⟨g2,163,aesC gt none 0 0⟩,⟨g1,156,W2.map v8⟩] hm
     obtain⟨WS,hWS⟩:=exq ((E (j+1)).1)
     rw [←hWS]at hs1 LEf EEf EFf ESj RW ho1
     clear hWS
     obtain⟨a1,rfl⟩:=(RW.out w [⟨g2,163,aesC gt none 0 0⟩,⟨g1,156,W2.map v8⟩] hm).1.addr (by omega) (by omega)
     have n7:(n:Int)+6+1=((n+7:Nat):Int):=by omega
     have lKS:KS.length=n+7:=by rw [EFf];exact rksL_length _ _
     have h16:=fun i (hi:i≤n+7)=>rksL_each WS EEf i (by omega)
     have H16:=hid h16
     have L16:=hid fun i (hi:i<n+7)=>rkL_length WS EEf i (by omega)
     have JO:=hid fun (i:Nat)(hi:i<n+7)(wx:World)(L:List Blk)(hx:Own w0 wx (L++(M1++[])))(cc:Nat)(hcc:4≤cc)=>(show Gives Tryz.prog 87 #[.slice (some (a1.add (4*i*4))) 4 cc] wx (A8 (rkL WS i))from joined_any _ _ _ wx ((RW.out wx L hx).1.seg (by omega) (4*i) 4 (by omega) (by omega)) (by rw [List.length_take,List.length_drop];omega) hcc)
     have RS0:Hid (rksL WS 0=[]):=hid rfl
     have RSS:=hid (rksL_succ WS)
     have hs0:SlO [] 132 16 (.slice none 0 0) 0 (catV (rksL WS 0)):=by rw [RS0.out];exact SlO.nil _ _
     have HS0:=hid hs0
     have HWL:=hid hwl
     have HOC:Hid (o+1≤c_v1):=hid hoc
     have HEF:=hid EFf
     have HLK:=hid lKS
     clear hs0 h16 hs1 LEf EEf ho1 hwl hoc EFf lKS hlast b7 b8 hj28 t1 t2 x1 x2 x3 x4
     go_loopw [112] (fun vi wr=>∃(i d2:Nat)(r2:Option Addr)(M2:List Blk),i≤n+7∧vi= .int .i64 i∧SlO M2 132 16 (.slice r2 i d2) i (catV (rksL WS i))∧Own w0 wr (M2++(⟨g2,163,aesC gt r2 i d2⟩::⟨g1,156,W2.map v8⟩::(M1++[])))) (fun vi _=>n+7-(intOf vi).toNat)
     case atStart=>exact⟨0,0,none,[],by omega,rfl,HS0.out,hm⟩
     case round =>
       obtain⟨i,d2,r2,M2,hi,rfl,hso2,hm⟩:=hrel
       have HSO2:=hid hso2
       by_cases hlt:i<n+7
       · have hd:decide ((i:Int)<(n:Int)+6+1)=true:=decide_eq_true (by omega)
         have hd1:decide ((i:Int)<(n:Int)+7)=true:=decide_eq_true (by omega)
         have hd2:(i:Int)<(n:Int)+7:=by omega
         have lRK:=L16.out i hlt
         have JI:=hid (JO.out i hlt)
         have RSi:=hid (RSS.out i)
         obtain⟨RK,hRK⟩:=exq (rkL WS i)
         obtain⟨RL0,hRL0⟩:=exq (rksL WS i)
         rw [←hRK]at lRK JI RSi
         rw [←hRL0]at HSO2 RSi
         clear hRK hRL0
         have BR:=hid (bs_run1 RK lRK)
         have LR:=hid (show(catV [RK]).length=1*16 by rw [catV_length 16 [RK] (by intro x hx;rw [List.mem_singleton.1 hx];exact lRK)];rfl)
         have FIT:=hid (show(i+1)*(16+1)≤140737488355328 by omega)
         have CR:=hid fun (wx:World)(g:Nat)(e:TypeId)(h:Row wx g e (catV [RK]))=>(rdK_row (m:=16) (by intro x hx;rw [List.mem_singleton.1 hx];exact lRK) h).cells
         have i1:(i:Int)≤14:=by omega
         clear hso2
         go_wp2_with fail
         have s0:4*i+4≤c_v1:=by have:=HWL.out;have:=HOC.out;omega
         have s1:4*(i:Int)+4≤(c_v1:Int):=by omega
         have s2:¬c_v1=4*i:=by omega
         have s3:(4*(i:Int)).toNat=4*i:=by omega
         have s4:(4*(i:Int)+4).toNat=4*i+4:=by omega
         have s5:4*i+4-4*i=4:=by omega
         have s6:(0:Int)≤4*(i:Int)+4:=by omega
         have s7:(0:Int)≤4*(i:Int):=by omega
         have s8:4*(i:Int)≤4*(i:Int)+4:=by omega
         have JI2:=hid fun (wx:World)(hx:Own w0 wx (⟨g2,163,aesC gt r2 i d2⟩::⟨g1,156,W2.map v8⟩::(M1++[])))=>JI.out wx [⟨g2,163,aesC gt r2 i d2⟩,⟨g1,156,W2.map v8⟩] hx (c_v1-4*i) (by omega)
         refine pregion 15 (JA1 w0 (⟨g2,163,aesC gt r2 i d2⟩::⟨g1,156,W2.map v8⟩::(M1++[])) 132 16 (.slice r2 i d2) i (catV RL0) (i+1) (catV RL0++catV [RK])) [14] 134 (by kernel_rfl) (by kernel_rfl) rfl (⟨none,rfl,M2,hm.ext (drew_ext _),HSO2.out⟩) ?_
         simp only [tSC,tZe,dSC,dZe,mCo,mNi]
         repeat (first
             |(apply pwalk_some (KeyQ RK) 128 (KeyQ.stable _) rfl rfl rfl rfl rfl;(intro vs_ wx hJ_;exact gqp_bsK (BR.out wx) rfl))
             | (apply pwalk_mark (T:=[(128,KeyQ RK)]) 0 [] rfl rfl rfl (by kernel_rfl) rfl
                · (intro vs_ wx hJ_ hn_ hD_;simp only [pwithS];obtain⟨a_,rfl,hX_⟩:=hJ_;obtain rfl:a_=none:=(by simpa using hn_);obtain⟨M_,hm,hs_⟩:=hX_;intro x_ hx_;obtain⟨gx_,ex_,rfl,hrow_⟩:=hx_ rfl;refine⟨rfl, ?_⟩;refine wplO_app (M:=M_) (ds:=catV [RK]) hm hs_ rfl rfl rfl rfl Tryz.underlying161 LR.out (CR.out _ _ _ hrow_) (catV_one _) FIT.out ?_;intro v_ w_ M1_ hm1_ hs1_;exact mark_end rfl (X1.j0 hm1_ hs1_)))
             | (apply pwalk_is rfl rfl rfl rfl
                · (intro vs_ wx hJ_;obtain⟨a_,rfl,hX_⟩:=hJ_;have hm:=hX_.low;first|((with_reducible show qGl);first|(exact zJ hm)|(exact zK hm)|(exact zL hm))|(go_simp;(try go_bits);first|exact gives_same|exact gives_skip|with_reducible exact gives_call (JI2.out wx hm)))
                · (simp only [Act.put,sIB,sCS,sCZ];rfl)))
         intro vs_ wz hJ_ hl_ hall_
         simp only [zCC,zNR]
         repeat rw [pfin_is]
         rw [pfin_cons];intro y128 hy128
         repeat rw [pfin_is]
         rw [pfin_cons];intro x129 hx129
         repeat rw [pfin_is]
         rw [pfin_nil]
         simp only [Act.put,sIB,sCS,sCZ]
         obtain⟨a_,rfl,hX_⟩:=hJ_
         obtain rfl:a_=some x129:=(by simpa [PMk]using hx129)
         clear hm
         obtain⟨M3,hm,hs3⟩:=hX_
         obtain⟨p3,c3,rfl⟩:=hs3.form
         clear hl_ hall_ hx129 hy128
         go_wp2_with (first|((with_reducible apply wq_st1 (v:= .slice p3 (i+1) c3) hm);exact rfl;infer_instance;exact rfl;exact rfl;exact rfl;exact rfl;exact(Swap.app .hd);exact(show 1<2 from by omega);clear hm;intro w hm))
         go_roundw
         case rel=>
           repeat apply Exists.intro
           exact⟨⟨i+1,c3,p3,M3,by omega,by go_num,by rw [RSi.out,catV_append];exact hs3,hm⟩,rfl⟩
         case measure=>simp [intOf]<;>omega
       · obtain rfl:i=n+7:=by omega
         have hd:decide (((n+7:Nat):Int)<(n:Int)+6+1)=false:=decide_eq_false (by omega)
         have hd1:decide (((n+7:Nat):Int)<(n:Int)+7)=false:=decide_eq_false (by omega)
         have hd2:¬((n+7:Nat):Int)<(n:Int)+7:=by omega
         clear hso2
         go_wp2_with fail
         simp only [Exit.jump]
         go_ret2
         obtain⟨rk0,_,rk2⟩:=slo_rdN (by omega) HSO2.out (H16.out (n+7) (Nat.le_refl _)) hm
         obtain⟨a2,rfl⟩:=rk0.addr (by omega) (by rw [rksL_length];omega)
         refine⟨g2,_,rfl,hm.dropN.base .hd,hm,fun wx hrow htab=> ?_⟩
         have rk:=(slo_rdNR (by omega) HSO2.out (H16.out (n+7) (Nat.le_refl _)) fun b hb=>hrow b (List.mem_append_left _ hb)).1
         rw [←HEF.out,ET.out]at rk
         exact⟨gt,gb,a2,d2,by rw [EL.out];exact hrow _ (List.mem_append_right _ (List.mem_cons_self ..)),htab.1,htab.2,rk,by rw [EL.out];exact rk2,by rw [EL.out];omega,by rw [EL.out];omega⟩
 · intro hp
   go_wp2_with (first|(go_at_call 82;(with_reducible refine(SH.out _).mono ?_);rintro e_ w_ ⟨rfl,rfl⟩)|((with_reducible apply wq_mkN 0 (4*(n+7)) Tryz.underlying155 elemW4 hm);exact rfl;exact rfl;exact rfl;exact rfl;exact e7;(focus omega);(focus omega);(focus omega);clear hm;intro g1 w cur hcur hm))
   have hs0:=SlO.room g1 156 4 (4*(n+7)) cur (by rw [hcur]) (by unfold maxLen;omega)
   go_loopw [9,33] (fun va vi wr=>∃(k d:Nat)(r:Option Addr)(M:List Blk),k≤n∧vi= .int .i64 k∧va= .slice r k d∧SlO M 156 4 (.slice r k d) k (catV ((List.range k).map (wdB key)))∧Own w0 wr (M++[])) (fun _ vi _=>n-(intOf vi).toNat)
   case atStart=>exact⟨0,_,_,_,by omega,rfl,rfl,hs0,hm⟩
   case round=>
     obtain⟨k,d,r,M,hkn,rfl,rfl,hso,hm⟩:=hrel
     clear hs0 hcur
     by_cases hlt:k<n
     · have hd:decide ((k:Int)<(n:Int))=true:=decide_eq_true (by omega)
       have hd2:(k:Int)<(n:Int):=by omega
       have C1:=hid (W1.out k hlt)
       have C2:=hid (W2.out k)
       have lW:=W3.out k
       have EK:=hid (show(List.range (k+1)).map (wdB key)=(List.range k).map (wdB key)++[wdB key k]by simp [List.range_succ])
       have HSO:=hid hso
       generalize wrd key (4*k)=X at*
       generalize wdB key k=Y at*
       have BW:=hid (bs_word Y lW)
       have hfit:(k+1)*(4+1)≤140737488355328:=by omega
       have LC:=hid (show(catV [Y]).length=1*4 by rw [catV_length 4 [Y] (by intro x hx;rw [List.mem_singleton.1 hx];exact lW)];rfl)
       clear hso
       go_wp2_with (first|(go_at_call 84;(with_reducible refine(C1.out _ hm.x).mono ?_);rintro e_ w ⟨rfl,hx_⟩;replace hm:=hm.ext hx_;clear hx_)|(go_at_call 83;(with_reducible refine(C2.out _).mono ?_);rintro e_ w ⟨rfl,hx_⟩;replace hm:=hm.ext hx_;clear hx_)|((with_reducible apply wq_bs1 (ks:=[Y]) hm (BW.out _));exact rfl;exact rfl;clear hm;intro g2 w hm)|((with_reducible show wpList _ _ _ (Oper.mk _ (Op.call _) _ _ _ _::_) _ _);refine wplO_app (M:=M) (R:=_) (ds:=catV [Y]) (hm.perm (List.perm_middle.symm)) HSO.out rfl rfl rfl rfl Tryz.underlying155 LC.out ((rdK_row (m:=4) (by intro x hx;rw [List.mem_singleton.1 hx];exact lW) (hm.row (g:=g2) (by repeat (first|exact Has.hd|assumption|apply Has.tl|apply Has.app)))).cells) (catV_one _) hfit ?_;clear hm;intro v1 w M1 hm hs1;obtain⟨p_v1,c_v1,rfl⟩:=hs1.form;replace hm:=hm.perm (List.perm_middle)))
       go_roundw
       case rel=>exact⟨k+1,_,_,M1,by omega,by go_num,rfl,by rw [EK.out,catV_append];exact hs1,hm.drop⟩
       case measure=>simp [intOf]<;>omega
     · obtain rfl:k=n:=by omega
       have hd:decide ((k:Int)<(k:Int))=false:=decide_eq_false (by omega)
       have HSO:=hid hso
       clear hso
       go_wp2_with fail
       rw [show(Value.int IntKind.u8 1)=v8 1#8 from rfl]
       go_step3
       rename_i hK
       exact hK _ _ (hp _ _ ⟨_,_,_,_,_,_,_,_,_,_,_,_,_,_,_,_,_,_,_,_,_,_,_,_,_,_,_,_,_,_,_,_,_,_,_,_,_,_,_,_,_,_,_,_,_,_,_,_,_,_,_,_,_,_,_,_,_,_,_,_,_,_,_,_,_,_,_,_,_,_,_,_,_,_,_,_,_,_,_,_,_,_,_,_,_,_,_,_,_,_,_,_,_,_,_,_,_,_,_,_,_,_,_,_,_,_,_,_,_,_,_,_,_,_,_,_,_,_,_,_,_,_,_,_,_,_,_,_,_,_,_,rfl,⟨by rw [E0.out];exact HSO.out,hm,rfl,by omega,E0p.out.symm⟩⟩)
def kN(key:List Byte):Nat:=key.length/4
def kL(key:List Byte):Bool:=decide (key.length=32)
abbrev eK0(key:List Byte):=aesK0 (kN key) (kL key) key
abbrev eKs(key:List Byte):=aesKs (kN key) (kL key) key
abbrev eKl(key:List Byte):=aesKl (kN key) (kL key) key
theorem expand_any(gt gb:Nat)(key:List Byte)(hk:key.length=16∨key.length=24∨key.length=32)(p:Option Addr)(c:Nat)(w0:World)(hr:RdB w0 p key)(hc:key.length≤c)(ht:TabR gt gb w0):
   Calls Tryz.prog 65 #[.pointer (some ⟨gt,0,none⟩), .slice p key.length c] w0 fun e w'=>∃g L,e= .returned (.tuple #[.pointer (some ⟨g,0,none⟩), .int .i64 0])∧w0.heap.size≤g∧Own w0 w' L∧Keeps L (TabR gt gb) (fun wx=>AesR wx g (eK0 key) (eKs key) (eKl key)):=by
 unfold eK0 eKs eKl kN kL
 rcases hk with hk|hk|hk
 · exact expand_gen gt gb _ _ key (by rw [hk];omega) (by rw [hk];omega) (by rw [hk]) p c w0 hr hc ht.1 ht.2 _ rfl _ _ _ rfl rfl rfl (hid fun w=>by rw [hk];exact shape16 w)
 · exact expand_gen gt gb _ _ key (by rw [hk];omega) (by rw [hk];omega) (by rw [hk]) p c w0 hr hc ht.1 ht.2 _ rfl _ _ _ rfl rfl rfl (hid fun w=>by rw [hk];exact shape24 w)
 · exact expand_gen gt gb _ _ key (by rw [hk];omega) (by rw [hk];omega) (by rw [hk]) p c w0 hr hc ht.1 ht.2 _ rfl _ _ _ rfl rfl rfl (hid fun w=>by rw [hk];exact shape32 w)
end Go.Proofs.YtneacgpmjlocjaaGreatDoor
