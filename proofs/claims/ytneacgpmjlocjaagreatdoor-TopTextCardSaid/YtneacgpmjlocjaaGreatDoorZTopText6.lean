/-
  Texts of the program, walked, and plain ones. Conditions: those written in each theorem.
-/
import Derived.Test.YtneacgpmjlocjaaGreatDoorZTopText0
import Derived.Test.YtneacgpmjlocjaaGreatDoorZTopText5
import Derived.Test.YtneacgpmjlocjaaGreatDoorZTopText4
import Derived.RegionTactic
import Derived.ChangeAlike
import Derived.Test.YtneacgpmjlocjaaGreatDoorZTopText3
set_option linter.unusedSimpArgs false
set_option linter.unusedVariables false
set_option maxHeartbeats 16000000
open Go.Lib (hid)
namespace Go.Proofs.YtneacgpmjlocjaaGreatDoor
open Go Go.RowKit
set_option maxRecDepth 100000
theorem double_any(a:Byte)(w:World):Calls Tryz.prog 49 #[v8 a] w fun e w'=>e= .returned (v8 (dbl a))∧w=w':=by
 go_enter Tryz.func49,Tryz.ntmps49
 go_wp2
 go_ret
 exact⟨rfl,rfl⟩
theorem shr_lt(b:Byte)(h:b≠0#8):(b>>>1).toNat<b.toNat:=by
 have:b.toNat≠0:=fun e=>h (BitVec.eq_of_toNat_eq e)
 simp only [BitVec.toNat_ushiftRight,Nat.shiftRight_eq_div_pow];omega
theorem shr_fit(b:Byte)(n:Nat)(h:b.toNat<2^(n+1)):(b>>>1).toNat<2^n:=by
 simp only [BitVec.toNat_ushiftRight,Nat.shiftRight_eq_div_pow];rw [Nat.pow_succ]at h;omega
theorem times_any(a0 b0:Byte)(w:World):Calls Tryz.prog 70 #[v8 a0,v8 b0] w fun e w'=>e= .returned (v8 (tms a0 b0))∧w=w':=by
 have h0:=tmsF_tms a0 b0
 have hb0:b0.toNat<2^8:=b0.isLt
 generalize tms a0 b0=R at*
 have H0:=hid h0
 have Hb0:=hid hb0
 clear h0 hb0
 go_enter Tryz.func70,Tryz.ntmps70
 go_wp2
 refine wp_scope_goto 0 (fun a_ w_=>∃(a b s:Byte)(n:Nat)(u2 u3 u6 u7 u8 u9 u10 u11 u12 u13 u14 u15 u16 u17 u18:Value),a_={tmps:= #[v8 a,v8 b,u2,u3,(.int .u8 0),v8 s,u6,u7,u8,u9,u10,u11,u12,u13,u14,u15,u16,u17,u18],defers:=[]}∧b.toNat<2^n∧tmsF n a b s=R∧w=w_) (fun a_ _=>(intOf (a_.tmps.getD 1 undef)).toNat) rfl ?_ ?_
 · rintro a' w' ⟨a,b,s,n,u2,u3,u6,u7,u8,u9,u10,u11,u12,u13,u14,u15,u16,u17,u18,rfl,⟨hn,hR,rfl⟩⟩
   have Hn:=hid hn
   have HR:=hid hR
   clear hn hR
   by_cases hb:b=0#8
   · subst hb
     have hr:=HR.out
     rw [tmsF_end]at hr
     have Hr:=hid hr
     clear hr
     go_wp2
     simp only [Exit.jump]
     go_ret
     exact⟨by rw [Hr.out];rfl,rfl⟩
   · have hb2:(b==0#8)=false:=by simpa using hb
     have hlt:=shr_lt b hb
     have Hlt:=hid hlt
     have Hb:=hid hb
     clear hb hlt
     go_wp2_with (go_at_call 49;(with_reducible refine(double_any _ _).mono ?_);rintro e w' ⟨rfl,rfl⟩)
     go_step3
     cases n with
     |zero=>exact absurd Hn.out (by have:=Hb.out;intro h;exact this (BitVec.eq_of_toNat_eq (by simp at h⊢;omega)))
     |succ n=>exact⟨rfl,⟨_,_,_,_,_,_,_,_,_,_,_,_,_,_,_,_,_,_,_,rfl,⟨shr_fit b n Hn.out,HR.out,rfl⟩⟩,Hlt.out⟩
 · intro hp
   go_wp2
   go_step3
   rename_i hK
   exact hK _ _ (hp _ _ ⟨_,_,_,_,_,_,_,_,_,_,_,_,_,_,_,_,_,_,_,rfl,⟨Hb0.out,H0.out,rfl⟩⟩)
theorem rotl_any(x:Byte)(k:Nat)(w:World)(hk:k<8):Calls Tryz.prog 71 #[v8 x, .int .i64 k] w fun e w'=>e= .returned (v8 (rotl8 x k))∧w=w':=by
 have hb:bits .and .u64 (k:Int) 7=k:=by
   have:∀k:Nat,k<8→bits .and .u64 (k:Int) 7=k:=by decide
   exact this k hk
 have h8:((8:Int)-(k:Int)).toNat=8-k:=by omega
 go_enter Tryz.func71,Tryz.ntmps71
 go_wp2
 go_ret
 exact⟨rfl,rfl⟩
theorem box_any(i:Byte)(w:World):Calls Tryz.prog 51 #[v8 i] w fun e w'=>e= .returned (v8 (boxF i 5))∧w=w':=by
 go_enter Tryz.func51,Tryz.ntmps51
 go_wp2
 go_loop [3,5] (fun o k=>∃n:Nat,n≤5∧k= .int .i64 n∧o=v8 (boxF i n)) (fun _ k=>5-(intOf k).toNat)
 case atStart=>exact⟨0,by omega,rfl,rfl⟩
 case round=>
   obtain⟨n,hn,rfl,rfl⟩:=hrel
   by_cases hlt:n<5
   · go_wp2_with (go_at_call 71;(with_reducible refine(rotl_any _ n _ (by omega)).mono ?_);rintro e w' ⟨rfl,rfl⟩)
     go_round
     case rel=>exact⟨n+1,by omega,by go_num,rfl⟩
     case measure=>simp [intOf]<;>omega
   · obtain rfl:n=5:=by omega
     go_wp2
     go_ret
     exact⟨rfl,rfl⟩
theorem bput_any(g:Nat)(t:TypeId)(l:List Byte)(hl:l.length=512)(a b:Byte)(w0 w:World)(L L':List Blk)(hm:Own w0 w L)(hs:Swap L ⟨g,t,l.map v8⟩ ⟨g,t,(putT l a b).map v8⟩ L'):
   Calls Tryz.prog 50 #[.pointer (some ⟨g,0,none⟩),v8 a,v8 b] w fun e w'=>e= .returned (.tuple #[])∧Own w0 w' L':=by
 obtain⟨M,h1,h2⟩:=hs.split ⟨g,t,(setN l a.toNat b).map v8⟩
 have o1:=hm.turn8 h1
 have o2:=o1.turn8 h2
 have ha:a.toNat<256:=a.isLt
 have hb:b.toNat<256:=b.isLt
 have ha2:(a.toNat:Int)<256:=by omega
 have hb2:(b.toNat:Int)<256:=by omega
 have r0:=hm.row h1.has
 have hc1:=row_v8 r0 a.toNat (by omega)
 have hc2:=row_v8 r0 (256+b.toNat) (by omega)
 have hf1:=row_free r0 a.toNat
 have hf2:=row_free r0 (256+b.toNat)
 have hne:¬a.toNat=256+b.toNat:=by omega
 have O2:=hid o2
 clear o1 o2 h1 h2 hs hm r0 hl
 go_enter Tryz.func50,Tryz.ntmps50
 go_wp2
 go_region
 all_goals
   go_wp2
   go_end0
   exact⟨rfl,O2.out.drew⟩
def BoxesS:Slot:=fun v w=>∃g,v= .pointer (some ⟨g,0,none⟩)∧Row w g 113 (tabs.map v8)
theorem BoxesS.stable:Stable BoxesS:=fun _ _ _ ⟨g,h1,h2⟩ hx=>⟨g,h1,row_ext h2 hx⟩
theorem build_boxes(w:World):(Instr.build 113 #[]).run Tryz.prog w= .ok (.agg ((zer (n:=8) 512).map v8).toArray) w:=by kernel_rfl
theorem box_anyG(i:Byte)(w:World):Gives Tryz.prog 51 #[v8 i] w (v8 (boxF i 5)):= .of_same (box_any i w)
theorem box0_any(w:World):Calls Tryz.prog 51 #[.int .u8 0] w fun e w'=>e= .returned (v8 (boxF 0#8 5))∧w=w':=box_any 0#8 w
theorem pow_mod(k:Nat)(h:k<255):((255:Int)-(k:Int)).tmod 255=(((255-k)%255:Nat):Int):=by
 rw [Int.tmod_eq_emod_of_nonneg (by omega)];omega
theorem make_new(w0:World):Calls Tryz.prog 38 #[] w0 fun e w'=>∃g,e= .returned (.pointer (some ⟨g,0,none⟩))∧w0.heap.size≤g∧Row w' g 113 (tabs.map v8)∧Ext w0 w':=by
 have hm:=Own.start w0
 go_enter Tryz.func38,Tryz.ntmps38
 go_wp2_with (first|((first|((with_reducible show qAl);first|(refine zG hm ?_)));clear hm;(first|(have hx_:=g1;clear hx_;(first|(have hx_:=g2;clear hx_;intro gx_)|intro g2))|intro g1);intro w hm))
 go_loopw [2,6] (fun e i wr=>∃k:Nat,k≤255∧i= .int .i64 k∧e=v8 (pws k)∧Own w0 wr [⟨g1,110,(part 255 k pws fun _=>0).map v8⟩]) (fun _ i _=>255-(intOf i).toNat)
 case atStart=>exact⟨0,by omega,rfl,rfl,by rw [←zer_start];exact hm⟩
 case round =>
   obtain⟨k,hk,rfl,rfl,hm⟩:=hrel
   by_cases hlt:k<255
   · go_wp2_with (first|(go_at_call 49;(with_reducible refine(double_any _ _).mono ?_);rintro e w' ⟨rfl,rfl⟩)|((((with_reducible show qSt);first|(refine zD hm ?_)));clear hm;intro w hm))
     go_roundw
     case rel=>
       rw [part_set' hlt rfl]at hm
       exact⟨k+1,by omega,by go_num,rfl,hm⟩
     case measure=>simp [intOf]<;>omega
   · obtain rfl :k=255:=by omega
     rw [part_all]at hm
     go_wp2_with (first|(go_at_call 51;(with_reducible refine(box0_any _).mono ?_);rintro e w' ⟨rfl,rfl⟩)|((with_reducible apply wq_build0 build_boxes);exact rfl)|((first|((with_reducible show qBx);first|(refine zH hm ?_)));clear hm;(first|(have hx_:=g1;clear hx_;(first|(have hx_:=g2;clear hx_;intro gx_)|intro g2))|intro g1);intro w hm))
     refine(bput_any _ _ (zer 512) zer_length 0#8 (boxF 0#8 5) w0 _ _ _ hm (by repeat (first|exact Swap.hd|assumption|apply Swap.tl))).mono ?_
     rintro e w ⟨rfl,hm⟩
     go_wp2_with fail
     go_loopw [22] (fun i wr=>∃k:Nat,k≤255∧i= .int .i64 k∧Own w0 wr [⟨g2,113,(tabT k).map v8⟩,⟨g1,110,(tab 255 pws).map v8⟩]) (fun i _=>255-(intOf i).toNat)
     case atStart=>exact⟨0,by omega,rfl,hm⟩
     case round =>
       obtain⟨k,hk,rfl,hm⟩:=hrel
       by_cases hlt:k<255
       · have hmod:=pow_mod k hlt
         have hq:(255-k)%255<255:=Nat.mod_lt _ (by omega)
         have e1:nth (tab 255 pws) k=pws k:=nth_tab hlt
         have e2:nth (tab 255 pws) ((255-k)%255)=pws ((255-k)%255):=nth_tab hq
         generalize hqq:(255-k)%255=q at*
         have hq2:(q:Int)<255:=by omega
         have hwr:IntKind.i64.wrap (255-(k:Int))=255-(k:Int):=IntWalk.i64_in _ (by omega)
         have Hqq:=hid hqq
         clear hqq
         go_wp2_with fail
         refine rgE 10 38 ?_
         simp only [tSC,tZe,dSC,dZe,mCo,mNi]
         repeat (first
             | (apply walk_is rfl rfl rfl
                · (intro wx hwx;first|((with_reducible show qGl);first|(exact zJ (hm.ext hwx)))|(go_simp;(try go_bits);first|exact gives_same|exact gives_skip|with_reducible exact gives_call (box_anyG _ wx)))
                · (simp only [Act.put,sIB,sCS,sCZ];rfl))
             | (apply walk_not rfl rfl rfl
                · (simp only [Act.put,sIB,sCS,sCZ];rfl)))
         intro wz hwz
         simp only [zCC,zNR]
         repeat (first|rw [fin_is]|(rw [fin_cons];intro _ _))
         rw [fin_nil]
         try (replace hm:=hm.ext hwz)
         simp only [Act.put,sIB,sCS,sCZ]
         go_wp2_with fail
         refine(bput_any g2 _ (tabT k) (tabT_length k) _ _ w0 _ _ _ hm (by repeat (first|exact Swap.hd|assumption|apply Swap.tl))).mono ?_
         rintro e w ⟨rfl,hm⟩
         have hT:putT (tabT k) (pws k) (boxF (pws q) 5)=tabT (k+1):=by rw [tabT,Hqq.out]
         first|rw [e1,e2,hT]at hm|rw [hT]at hm
         go_wp2
         go_roundw
         case rel=>exact⟨k+1,by omega,by go_num,hm⟩
         case measure=>simp [intOf]<;>omega
       · obtain rfl:k=255:=by omega
         go_wp2_with fail
         go_ret
         exact⟨g2,rfl,hm.base (by repeat (first|exact Has.hd|assumption|apply Has.tl)),hm.row (by repeat (first|exact Has.hd|assumption|apply Has.tl)),hm.x⟩
theorem to_any(g:Nat)(a:Byte)(w:World)(h:Row w g 113 (tabs.map v8)):Calls Tryz.prog 41 #[.pointer (some ⟨g,0,none⟩),v8 a] w fun e w'=>e= .returned (v8 (bxTo a))∧w=w':=by
 have ha:a.toNat<256:=a.isLt
 have ha2:(a.toNat:Int)<256:=by omega
 have hc:w.cell? ⟨g,a.toNat,none⟩=some (v8 (bxTo a)):=by rw [row_v8 h a.toNat (by rw [tabs_length];omega)];rfl
 clear h
 go_enter Tryz.func41,Tryz.ntmps41
 go_wp2
 go_ret
 exact⟨rfl,rfl⟩
theorem back_any(g:Nat)(a:Byte)(w:World)(h:Row w g 113 (tabs.map v8)):Calls Tryz.prog 172 #[.pointer (some ⟨g,0,none⟩),v8 a] w fun e w'=>e= .returned (v8 (bxBack a))∧w=w':=by
 have ha:a.toNat<256:=a.isLt
 have ha2:(a.toNat:Int)<256:=by omega
 have hc:w.cell? ⟨g,256+a.toNat,none⟩=some (v8 (bxBack a)):=by rw [row_v8 h (256+a.toNat) (by rw [tabs_length];omega)];rfl
 clear h
 go_enter Tryz.func172,Tryz.ntmps172
 go_wp2
 go_ret
 exact⟨rfl,rfl⟩
open Go
def mixesL:List Byte:=[2#8,3#8,1#8,1#8]
def unmixesL:List Byte:=[14#8,11#8,13#8,9#8]
def brg(by_:List Byte)(row:Nat)(a:Byte):Nat→BitVec 32
 |0=>0#32
 |r+1=>brg by_ row a r|||((tms (nth by_ ((row+4-r)%4)) a).setWidth 32<<<(8*r))
def mixF(i:Nat):BitVec 32:=brg mixesL (i/256) (bxTo (BitVec.ofNat 8 (i%256))) 4
def unmixF(i:Nat):BitVec 32:=brg unmixesL (i/256) (BitVec.ofNat 8 (i%256)) 4
def mixT:List (BitVec 32):=tab 1024 mixF
def unmixT:List (BitVec 32):=tab 1024 unmixF
theorem mixT_length:mixT.length=1024:=tab_length
theorem unmixT_length:unmixT.length=1024:=tab_length
theorem mixT_nth(row:Nat)(a:Byte)(h:row<4):nth mixT (row*256+a.toNat)=brg mixesL row (bxTo a) 4:=by
 have ha:a.toNat<256:=a.isLt
 rw [mixT,nth_tab (by omega),mixF,show(row*256+a.toNat)/256=row from by omega,show(row*256+a.toNat)%256=a.toNat from by omega]
 simp
theorem unmixT_nth(row:Nat)(a:Byte)(h:row<4):nth unmixT (row*256+a.toNat)=brg unmixesL row a 4:=by
 have ha:a.toNat<256:=a.isLt
 rw [unmixT,nth_tab (by omega),unmixF,show(row*256+a.toNat)/256=row from by omega,show(row*256+a.toNat)%256=a.toNat from by omega]
 simp
def byteW(n:BitVec 32)(r:Nat):Byte:=(n>>>(8*r)).setWidth 8
theorem byteW_xor(n m:BitVec 32)(r:Nat):byteW (n^^^m) r=byteW n r^^^byteW m r:=by
 simp only [byteW,BitVec.ushiftRight_xor_distrib,BitVec.setWidth_xor]
theorem byteW_or(n m:BitVec 32)(r:Nat):byteW (n|||m) r=byteW n r|||byteW m r:=by
 apply BitVec.eq_of_getLsbD_eq;intro i hi;simp [byteW,hi]
theorem byteW_shl(x:Byte)(s r:Nat)(hs:s<4)(hr:r<4):byteW (x.setWidth 32<<<(8*s)) r=if s=r then x else 0#8:=by
 apply BitVec.eq_of_getLsbD_eq
 intro i hi
 simp only [byteW,BitVec.getLsbD_setWidth,BitVec.getLsbD_ushiftRight,BitVec.getLsbD_shiftLeft,hi,decide_true,Bool.true_and]
 by_cases e:s=r
 · subst e
   rw [if_pos rfl,show decide (8*s+i<8*s)=false from by simp,show 8*s+i-8*s=i from by omega]
   simp [show i<32 by omega];intro _;omega
 · rw [if_neg e]
   by_cases h:8*r+i<8*s
   · simp [h]
   · have:x.getLsbD (8*r+i-8*s)=false:=BitVec.getLsbD_of_ge _ _ (by omega)
     simp [this]
theorem byteW_brg(by_:List Byte)(row:Nat)(a:Byte)(r:Nat)(hr:r<4):byteW (brg by_ row a 4) r=tms (nth by_ ((row+4-r)%4)) a:=by
 have key:∀k,k≤4→byteW (brg by_ row a k) r=if r<k then tms (nth by_ ((row+4-r)%4)) a else 0#8:=by
   intro k
   induction k with
   |zero=>intro _;simp [brg,byteW]
   | succ k ih=>
     intro hk
     rw [brg,byteW_or,ih (by omega),byteW_shl _ _ _ (by omega) hr]
     by_cases h1:r<k
     · rw [if_pos h1,if_neg (by omega),if_pos (by omega)];simp
     · by_cases h2:k=r
       · subst h2;rw [if_neg (by omega),if_pos rfl,if_pos (by omega)];simp
       · rw [if_neg h1,if_neg h2,if_neg (by omega)];simp
 rw [key 4 (by omega),if_pos hr]
def shp(row col:Nat):Nat:=row+4*((col+row)%4)
theorem shp_lt(row col:Nat)(h:row<4):shp row col<16:=by unfold shp;omega
def colW(b key:List Byte)(col:Nat):Nat→BitVec 32
 |0=>(nth key (4*col)).setWidth 32|||((nth key (4*col+1)).setWidth 32<<<8)|||((nth key (4*col+2)).setWidth 32<<<16)|||((nth key (4*col+3)).setWidth 32<<<24)
 |row+1=>colW b key col row^^^brg mixesL row (bxTo (nth b (shp row col))) 4
def rndB(b key:List Byte)(i:Nat):Byte:=byteW (colW b key (i/4) 4) (i%4)
def rnd(b key:List Byte):List Byte:=tab 16 (rndB b key)
def lastB(b key:List Byte)(i:Nat):Byte:=bxTo (nth b (shp (i%4) (i/4)))^^^nth key i
def last(b key:List Byte):List Byte:=tab 16 (lastB b key)
def rnds(b:List Byte):List (List Byte)→List Byte
 |[]=>b
 |k::ks=>rnds (rnd b k) ks
theorem rnd_length(b key:List Byte):(rnd b key).length=16:=tab_length
theorem last_length(b key:List Byte):(last b key).length=16:=tab_length
theorem rnd_nth(b key:List Byte)(i:Nat)(h:i<16):nth (rnd b key) i=nth key i^^^(((tms (nth mixesL ((0+4-i%4)%4)) (bxTo (nth b (shp 0 (i/4))))^^^tms (nth mixesL ((1+4-i%4)%4)) (bxTo (nth b (shp 1 (i/4)))))^^^tms (nth mixesL ((2+4-i%4)%4)) (bxTo (nth b (shp 2 (i/4)))))^^^tms (nth mixesL ((3+4-i%4)%4)) (bxTo (nth b (shp 3 (i/4))))):=by
 rw [rnd,nth_tab h,rndB]
 have hr:i%4<4:=Nat.mod_lt _ (by omega)
 have hk:byteW (colW b key (i/4) 0) (i%4)=nth key i:=by
   have b0:byteW ((nth key (4*(i/4))).setWidth 32) (i%4)=if 0=i%4 then nth key (4*(i/4))else 0#8:=by
     have:=byteW_shl (nth key (4*(i/4))) 0 (i%4) (by omega) hr;simpa using this
   have b1:byteW ((nth key (4*(i/4)+1)).setWidth 32<<<8) (i%4)=if 1=i%4 then nth key (4*(i/4)+1)else 0#8:=byteW_shl _ 1 (i%4) (by omega) hr
   have b2:byteW ((nth key (4*(i/4)+2)).setWidth 32<<<16) (i%4)=if 2=i%4 then nth key (4*(i/4)+2)else 0#8:=byteW_shl _ 2 (i%4) (by omega) hr
   have b3:byteW ((nth key (4*(i/4)+3)).setWidth 32<<<24) (i%4)=if 3=i%4 then nth key (4*(i/4)+3)else 0#8:=byteW_shl _ 3 (i%4) (by omega) hr
   rw [colW,byteW_or,byteW_or,byteW_or,b0,b1,b2,b3]
   have hi:i=4*(i/4)+i%4:=by omega
   rcases (show i%4=0∨i%4=1∨i%4=2∨i%4=3 by omega)with e|e|e|e<;>rw [e]at hi⊢<;>simp<;>exact congrArg (nth key) (by omega)
 simp only [colW]at hk⊢
 simp only [byteW_xor,hk,byteW_brg _ _ _ _ hr]
 ac_rfl
def unbF(b:List Byte):Nat→List Byte
 |0=>zer 16
 |k+1=>setN (unbF b k) (shp (k%4) (k/4)) (bxBack (nth b k))
def unbL(b:List Byte):List Byte:=unbF b 16
theorem unbF_length(b:List Byte)(k:Nat):(unbF b k).length=16:=by
 induction k with
 |zero=>exact zer_length
 |succ k ih=>rw [unbF,setN_length,ih]
theorem unbL_length(b:List Byte):(unbL b).length=16:=unbF_length b 16
def ush(j:Nat):Nat:=j%4+4*((j/4+4-j%4)%4)
theorem ush_lt(j:Nat)(h:j<16):ush j<16:=by unfold ush;omega
theorem shp_ush(j:Nat)(h:j<16):shp (ush j%4) (ush j/4)=j:=by unfold ush shp;omega
theorem shp_is(k j:Nat)(hk:k<16)(hj:j<16):(shp (k%4) (k/4)=j)↔(ush j=k):=by unfold ush shp;omega
theorem unbF_nth(b:List Byte)(j:Nat)(hj:j<16):∀k,k≤16→nth (unbF b k) j=if ush j<k then bxBack (nth b (ush j))else 0#8:=by
 intro k
 induction k with
 |zero=>intro _;rw [if_neg (by omega),unbF,zer,nth_tab hj];rfl
 | succ k ih=>
   intro hk
   rw [unbF,nth_set (by rw [unbF_length];exact hj),ih (by omega)]
   by_cases e:ush j=k
   · rw [if_pos ((shp_is k j (by omega) hj).2 e),if_pos (by omega),e]
   · rw [if_neg (fun h=>e ((shp_is k j (by omega) hj).1 h))]
     by_cases h:ush j<k
     · rw [if_pos h,if_pos (by omega)]
     · rw [if_neg h,if_neg (by omega)]
theorem unbL_nth(b:List Byte)(j:Nat)(h:j<16):nth (unbL b) j=bxBack (nth b (ush j)):=by rw [unbL,unbF_nth b j h 16 (Nat.le_refl _),if_pos (ush_lt j h)]
def cmb(by_:List Byte)(r:Nat)(x:Nat→Byte):Byte:=((tms (nth by_ ((0+4-r)%4)) (x 0)^^^tms (nth by_ ((1+4-r)%4)) (x 1))^^^tms (nth by_ ((2+4-r)%4)) (x 2))^^^tms (nth by_ ((3+4-r)%4)) (x 3)
theorem xor16(a b c d e f g h i j k l m n o p:Byte):(((((a^^^b)^^^c)^^^d)^^^(((e^^^f)^^^g)^^^h))^^^(((i^^^j)^^^k)^^^l))^^^(((m^^^n)^^^o)^^^p)=(((((a^^^e)^^^i)^^^m)^^^(((b^^^f)^^^j)^^^n))^^^(((c^^^g)^^^k)^^^o))^^^(((d^^^h)^^^l)^^^p):=by ac_rfl
theorem cmb_two(u m:List Byte)(r:Nat)(x:Nat→Byte)(q:Nat)(hq:q<4)
   (h:∀k,k<4→∀y:Byte,((tms (nth u ((0+4-r)%4)) (tms (nth m ((k+4-0)%4)) y)^^^tms (nth u ((1+4-r)%4)) (tms (nth m ((k+4-1)%4)) y))^^^tms (nth u ((2+4-r)%4)) (tms (nth m ((k+4-2)%4)) y))^^^tms (nth u ((3+4-r)%4)) (tms (nth m ((k+4-3)%4)) y)=if k=q then y else 0#8):
   cmb u r (fun k=>cmb m k x)=x q:=by
 unfold cmb
 simp only [tms_xb]
 rw [xor16,h 0 (by omega),h 1 (by omega),h 2 (by omega),h 3 (by omega)]
 rcases (show q=0∨q=1∨q=2∨q=3 by omega)with rfl|rfl|rfl|rfl<;>simp
theorem unmix_mix(r:Nat)(hr:r<4)(x:Nat→Byte):cmb unmixesL r (fun k=>cmb mixesL k x)=x r:=by
 refine cmb_two _ _ r x r hr fun k hk=> ?_
 rcases (show r=0∨r=1∨r=2∨r=3 by omega)with rfl|rfl|rfl|rfl<;>rcases (show k=0∨k=1∨k=2∨k=3 by omega)with rfl|rfl|rfl|rfl<;>decide+kernel
def uncW(b:List Byte)(col:Nat):Nat→BitVec 32
 |0=>0#32
 |r+1=>uncW b col r^^^brg unmixesL r (nth b (r+4*col)) 4
def uncB(b:List Byte)(i:Nat):Byte:=byteW (uncW b (i/4) 4) (i%4)
def uncL(b:List Byte):List Byte:=tab 16 (uncB b)
theorem uncL_length(b:List Byte):(uncL b).length=16:=tab_length
theorem uncB_cmb(b:List Byte)(i:Nat):uncB b i=cmb unmixesL (i%4) fun k=>nth b (k+4*(i/4)):=by
 have hr:i%4<4:=Nat.mod_lt _ (by omega)
 have h0:byteW 0#32 (i%4)=0#8:=by simp [byteW]
 simp only [uncB,uncW,byteW_xor,byteW_brg _ _ _ _ hr,h0,BitVec.zero_xor,cmb]
theorem uncL_nth(b:List Byte)(i:Nat)(h:i<16):nth (uncL b) i=cmb unmixesL (i%4) fun k=>nth b (k+4*(i/4)):=by rw [uncL,nth_tab h,uncB_cmb]
theorem rnd_cmb(b key:List Byte)(i:Nat)(h:i<16):nth (rnd b key) i=nth key i^^^cmb mixesL (i%4) fun k=>bxTo (nth b (shp k (i/4))):=rnd_nth b key i h
def unr(b key:List Byte):List Byte:=unbL (uncL (bothL b key))
def unl(b key:List Byte):List Byte:=unbL (bothL b key)
theorem unr_length(b key:List Byte):(unr b key).length=16:=unbL_length _
theorem unl_length(b key:List Byte):(unl b key).length=16:=unbL_length _
theorem xor_back(k x:Byte):(k^^^x)^^^k=x:=by rw [BitVec.xor_comm k x,BitVec.xor_assoc,BitVec.xor_self,BitVec.xor_zero]
theorem cmb_congr(by_:List Byte)(r:Nat)(x y:Nat→Byte)(h:∀k,k<4→x k=y k):cmb by_ r x=cmb by_ r y:=by
 unfold cmb;rw [h 0 (by omega),h 1 (by omega),h 2 (by omega),h 3 (by omega)]
theorem unr_rnd(b key:List Byte)(hb:b.length=16):unr (rnd b key) key=b:=by
 apply nth_ext (by rw [unr_length,hb])
 intro j hj
 rw [unr_length]at hj
 have hu:=ush_lt j hj
 have h4:ush j%4<4:=Nat.mod_lt _ (by omega)
 rw [unr,unbL_nth _ _ hj,uncL_nth _ _ hu]
 have:(cmb unmixesL (ush j%4) fun k=>nth (bothL (rnd b key) key) (k+4*(ush j/4)))=cmb unmixesL (ush j%4) fun k=>cmb mixesL k fun q=>bxTo (nth b (shp q (ush j/4))):=by
   apply cmb_congr
   intro k hk
   rw [bothL_nth _ _ _ (by omega),rnd_cmb _ _ _ (by omega),xor_back,show(k+4*(ush j/4))%4=k from by omega,show(k+4*(ush j/4))/4=ush j/4 from by omega]
 rw [this,unmix_mix _ h4,back_to,shp_ush j hj]
theorem unl_last(b key:List Byte)(hb:b.length=16):unl (last b key) key=b:=by
 apply nth_ext (by rw [unl_length,hb])
 intro j hj
 rw [unl_length]at hj
 have hu:=ush_lt j hj
 rw [unl,unbL_nth _ _ hj,bothL_nth _ _ _ hu,last,nth_tab hu,lastB,BitVec.xor_assoc,BitVec.xor_self,BitVec.xor_zero,back_to,shp_ush j hj]
/-! ### Rounds, one after the other -/
theorem rnds_length(ks:List (List Byte)):∀b:List Byte,b.length=16→(rnds b ks).length=16:=by
 induction ks with
 |nil=>intro b h;exact h
 |cons k ks ih=>intro b _;exact ih _ (rnd_length b k)
theorem rnds_append(ks ls:List (List Byte)):∀b:List Byte,rnds b (ks++ls)=rnds (rnds b ks) ls:=by
 induction ks with
 |nil=>intro b;rfl
 |cons k ks ih=>intro b;exact ih _
theorem rnds_take(b:List Byte)(ks:List (List Byte))(k:Nat)(h:k<ks.length):rnds b (ks.take (k+1))=rnd (rnds b (ks.take k)) (ks.getD k []):=by
 rw [List.take_succ_eq_append_getElem h,rnds_append]
 simp [rnds,h]
theorem brings_any(by_:List Byte)(row:Nat)(a:Byte)(w0:World)(hb:by_.length=4)(hr:row<4):Gives Tryz.prog 48 #[A8 by_, .int .i64 row,v8 a] w0 (v32 (brg by_ row a 4)):=by
 unfold Gives
 have hb1:=Nat.le_of_eq hb
 have hb2:=Nat.le_of_eq hb.symm
 clear hb
 have hm:=Own.start w0
 go_enter Tryz.func48,Tryz.ntmps48
 go_wp2_with (first|((first|((with_reducible show qBx);first|(refine zH hm ?_)));clear hm;intro gx_;intro w hm))
 go_loop [7,9] (fun n i=>∃r:Nat,r≤4∧i= .int .i64 r∧n=v32 (brg by_ row a r)) (fun _ i=>4-(intOf i).toNat)
 case atStart=>exact⟨0,by omega,rfl,rfl⟩
 case round=>
   obtain⟨r,hr4,rfl,rfl⟩:=hrel
   by_cases hlt:r<4
   · obtain⟨q,hq,hq4⟩:∃q:Nat,(row+4-r)%4=q∧q<4:=⟨_,rfl,Nat.mod_lt _ (by omega)⟩
     have he:((row:Int)-(r:Int)+4)%4=(q:Int):=by omega
     have ht:((row:Int)-(r:Int)+4).tmod 4=(q:Int):=by rw [Int.tmod_eq_emod_of_nonneg (by omega)];exact he
     have h8:((8:Int)*(r:Int)).toNat=8*r:=by omega
     have h80:0≤(8:Int)*(r:Int):=by omega
     have hB:brg by_ row a (r+1)=brg by_ row a r|||((tms (nth by_ q) a).setWidth 32<<<(8*r)):=by rw [brg,hq]
     have HB:=hid hB
     clear hB hq
     go_wp2_with (first|(go_at_call 70;(with_reducible refine(times_any _ _ _).mono ?_);rintro e_ w_ ⟨rfl,rfl⟩)|((with_reducible show qLd);first|(refine zA hm ?_)))
     go_round
     case rel=>exact⟨r+1,by omega,by go_num,by rw [HB.out]⟩
     case measure=>simp [intOf]<;>omega
   · obtain rfl:r=4:=by omega
     go_wp2_with fail
     go_ret
     exact⟨rfl,hm.x⟩
def tcells(gb:Nat)(M U:List (BitVec 32)):List Value:= .pointer (some ⟨gb,0,none⟩)::(M.map v32++U.map v32)
@[simp] theorem tcells_length (gb : Nat) (M U : List (BitVec 32)) : (tcells gb M U).length = 1 + M.length + U.length := by simp [tcells]; omega
theorem tcells_mix(gb:Nat)(M U:List (BitVec 32))(i k:Nat)(x:BitVec 32)(hk:k=1+i)(hi:i<M.length):(tcells gb M U).set k (v32 x)=tcells gb (setN M i x) U:=by
 subst hk
 rw [Nat.add_comm]
 simp only [tcells,sCS]
 rw [List.set_append_left _ _ (by simpa using hi),mapv_set]
theorem tcells_unmix(gb:Nat)(M U:List (BitVec 32))(i k:Nat)(x:BitVec 32)(hk:k=1+M.length+i):(tcells gb M U).set k (v32 x)=tcells gb M (setN U i x):=by
 subst hk
 rw [show 1+M.length+i=(M.length+i)+1 from by omega]
 simp only [tcells,sCS]
 rw [List.set_append_right _ _ (by simp),List.length_map,Nat.add_sub_cancel_left,mapv_set]
theorem tcells_ptr(gb:Nat)(M U:List (BitVec 32)):(tcells gb M U)[0]? =some (.pointer (some ⟨gb,0,none⟩)):=rfl
theorem tcells_mix_at(gb:Nat)(M U:List (BitVec 32))(i k:Nat)(hk:k=1+i)(hi:i<M.length):(tcells gb M U)[k]? =some (v32 (nth M i)):=by
 subst hk
 rw [Nat.add_comm]
 simp only [tcells,List.getElem?_cons_succ]
 rw [List.getElem?_append_left (by simpa using hi),mapv_at _ _ hi]
theorem tcells_unmix_at(gb:Nat)(M U:List (BitVec 32))(i k:Nat)(hk:k=1+M.length+i)(hi:i<U.length):(tcells gb M U)[k]? =some (v32 (nth U i)):=by
 subst hk
 rw [show 1+M.length+i=(M.length+i)+1 from by omega]
 simp only [tcells,List.getElem?_cons_succ]
 rw [List.getElem?_append_right (by simp),List.length_map,Nat.add_sub_cancel_left,mapv_at _ _ hi]
theorem build_tables(gb:Nat)(w:World):(Instr.build 88 #[(0, .pointer (some ⟨gb,0,none⟩))]).run Tryz.prog w= .ok (.agg (tcells gb (zer 1024) (zer 1024)).toArray) w:=by kernel_rfl
def Coef(w:World):Prop:=RdB w (some ⟨0,0,none⟩) mixesL∧RdB w (some ⟨1,0,none⟩) unmixesL
theorem Coef.ext {w w':World}(h:Coef w)(hx:Ext w w'):Coef w':=⟨h.1.ext hx,h.2.ext hx⟩
def TabS:Slot:=fun v w=>∃g gb,v= .pointer (some ⟨g,0,none⟩)∧Row w g 88 (tcells gb mixT unmixT)∧Row w gb 113 (tabs.map v8)
theorem TabS.stable:Stable TabS:=fun _ _ _ ⟨g,gb,h1,h2,h3⟩ hx=>⟨g,gb,h1,row_ext h2 hx,row_ext h3 hx⟩
theorem to_G(g:Nat)(a:Byte)(w:World)(h:Row w g 113 (tabs.map v8)):Gives Tryz.prog 41 #[.pointer (some ⟨g,0,none⟩),v8 a] w (v8 (bxTo a)):= .of_same (to_any g a w h)
theorem back_G(g:Nat)(a:Byte)(w:World)(h:Row w g 113 (tabs.map v8)):Gives Tryz.prog 172 #[.pointer (some ⟨g,0,none⟩),v8 a] w (v8 (bxBack a)):= .of_same (back_any g a w h)
theorem natv8 {a:Nat}(h:a<256):Value.int .u8 (a:Int)=v8 (BitVec.ofNat 8 a):=by
 have:(BitVec.ofNat 8 a).toNat=a:=by simp;omega
 rw [v8,this]
theorem tnew_new(gb:Nat)(w0:World)(hb:Row w0 gb 113 (tabs.map v8))(hc:Coef w0):Calls Tryz.prog 37 #[.pointer (some ⟨gb,0,none⟩)] w0 fun e w'=>∃g,e= .returned (.pointer (some ⟨g,0,none⟩))∧w0.heap.size≤g∧Row w' g 88 (tcells gb mixT unmixT)∧Ext w0 w':=by
 have hm:=Own.start w0
 go_enter Tryz.func37,Tryz.ntmps37
 go_wp2_with (first|((with_reducible apply wq_build1 (build_tables gb));exact rfl;exact rfl)|((first|((with_reducible show qBx);first|(refine zH hm ?_)));clear hm;(first|(have hx_:=g1;clear hx_;intro gx_)|intro g1);intro w hm))
 go_loopw [11] (fun i wr=>∃row:Nat,row≤4∧i= .int .i64 row∧Own w0 wr [⟨g1,88,tcells gb (part 1024 (row*256) mixF fun _=>0) (part 1024 (row*256) unmixF fun _=>0)⟩]) (fun i _=>4-(intOf i).toNat)
 case atStart=>exact⟨0,by omega,rfl,by rw [Nat.zero_mul,←zer_start,←zer_start];exact hm⟩
 case round =>
   obtain⟨row,hrow,rfl,hm⟩:=hrel
   by_cases hlt:row<4
   · go_wp2_with fail
     go_loopw [14] (fun j wr=>∃a:Nat,a≤256∧j= .int .i64 a∧Own w0 wr [⟨g1,88,tcells gb (part 1024 (row*256+a) mixF fun _=>0) (part 1024 (row*256+a) unmixF fun _=>0)⟩]) (fun j _=>256-(intOf j).toNat)
     case atStart=>exact⟨0,by omega,rfl,hm⟩
     case round =>
       obtain⟨a,ha,rfl,hm⟩:=hrel
       by_cases hla:a<256
       · have e1:mixF (row*256+a)=brg mixesL row (bxTo (BitVec.ofNat 8 a)) 4:=by rw [mixF,show(row*256+a)/256=row from by omega,show(row*256+a)%256=a from by omega]
         have e2:unmixF (row*256+a)=brg unmixesL row (BitVec.ofNat 8 a) 4:=by rw [unmixF,show(row*256+a)/256=row from by omega,show(row*256+a)%256=a from by omega]
         have E1:=hid e1
         have E2:=hid e2
         clear e1 e2
         go_wp2_with fail
         have hbw:=row_ext hb hm.x
         have hcw:=(hc.ext hm.x).1
         have hT:∀wx,Ext wr wx→Gives Tryz.prog 41 #[.pointer (some ⟨gb,0,none⟩), .int .u8 a] wx (v8 (bxTo (BitVec.ofNat 8 a))):=fun wx hwx=>by rw [natv8 hla];exact to_G _ _ wx (row_ext hbw hwx)
         have HT:=hid hT
         have HM:=hid hcw
         clear hT hbw hcw
         refine rgE 14 46 ?_
         simp only [tSC,tZe,dSC,dZe,mCo,mNi]
         repeat (first
             | (apply walk_is rfl rfl rfl
                · (intro wx hwx;(with_reducible apply gq_rdW ((fun wx hwx=>HM.out.ext hwx) wx hwx));infer_instance;exact rfl;(focus (first|rfl|omega|(simp;done)|(simp;omega))))
                · (simp only [Act.put,sIB,sCS,sCZ];rfl))
             | (apply walk_is rfl rfl rfl
                · (intro wx hwx;go_simp;(try go_bits);first|exact gives_same|exact gives_skip|with_reducible exact gives_call (HT.out wx hwx)|with_reducible exact gives_call (brings_any mixesL row _ wx rfl hlt))
                · (simp only [Act.put,sIB,sCS,sCZ];rfl))
             | (apply walk_not rfl rfl rfl
                · (simp only [Act.put,sIB,sCS,sCZ];rfl)))
         intro wz hwz
         simp only [zCC,zNR]
         repeat (first|rw [fin_is]|(rw [fin_cons];intro _ _))
         rw [fin_nil]
         try (replace hm:=hm.ext hwz)
         simp only [Act.put,sIB,sCS,sCZ]
         clear HT HM
         go_wp2_with (first|((((with_reducible show qSt);first|((with_reducible apply wq_s1v (f:=v32) hm);exact rfl;infer_instance;exact rfl;exact rfl;infer_instance;(focus (repeat first|exact .hd|assumption|apply Swap.tl);done);(focus (first|omega|(simp;omega)|(refine ltB ?_;first|omega|(simp;done)|(simp;omega)))))));clear hm;intro w hm))
         rw [show 1+row*256+a=1+(row*256+a)from by omega,tcells_mix _ _ _ (row*256+a) _ _ rfl (by rw [part_length];omega),part_set' (show row*256+a<1024 from by omega) E1.out.symm]at hm
         have hcw:=(hc.ext hm.x).2
         have hB:∀wx,Gives Tryz.prog 48 #[A8 unmixesL, .int .i64 row, .int .u8 a] wx (v32 (brg unmixesL row (BitVec.ofNat 8 a) 4)):=fun wx=>by rw [natv8 hla];exact brings_any unmixesL row _ wx rfl hlt
         have HB:=hid hB
         have HM:=hid hcw
         clear hB hcw
         refine rgE 12 46 ?_
         simp only [tSC,tZe,dSC,dZe,mCo,mNi]
         repeat (first
             | (apply walk_is rfl rfl rfl
                · (intro wx hwx;(with_reducible apply gq_rdW ((fun wx hwx=>HM.out.ext hwx) wx hwx));infer_instance;exact rfl;(focus (first|rfl|omega|(simp;done)|(simp;omega))))
                · (simp only [Act.put,sIB,sCS,sCZ];rfl))
             | (apply walk_is rfl rfl rfl
                · (intro wx hwx;go_simp;(try go_bits);first|exact gives_same|exact gives_skip|with_reducible exact gives_call (HB.out wx))
                · (simp only [Act.put,sIB,sCS,sCZ];rfl))
             | (apply walk_not rfl rfl rfl
                · (simp only [Act.put,sIB,sCS,sCZ];rfl)))
         intro wz hwz
         simp only [zCC,zNR]
         repeat (first|rw [fin_is]|(rw [fin_cons];intro _ _))
         rw [fin_nil]
         try (replace hm:=hm.ext hwz)
         simp only [Act.put,sIB,sCS,sCZ]
         clear HB HM
         go_wp2_with (first|((((with_reducible show qSt);first|((with_reducible apply wq_s1v (f:=v32) hm);exact rfl;infer_instance;exact rfl;exact rfl;infer_instance;(focus (repeat first|exact .hd|assumption|apply Swap.tl);done);(focus (first|omega|(simp;omega)|(refine ltB ?_;first|omega|(simp;done)|(simp;omega)))))));clear hm;intro w hm))
         go_roundw
         case rel=>
           rw [show 1025+row*256+a=1+(part 1024 (row*256+a+1) mixF fun _=>0).length+(row*256+a)from by rw [part_length];omega,tcells_unmix _ _ _ (row*256+a) _ _ rfl,part_set' (show row*256+a<1024 from by omega) E2.out.symm]at hm
           exact⟨a+1,by omega,by go_num,hm⟩
         case measure=>simp [intOf]<;>omega
       · obtain rfl:a=256:=by omega
         go_wp2_with fail
         go_roundw
         case rel=>exact⟨row+1,by omega,by go_num,by rw [show(row+1)*256=row*256+256 from by omega];exact hm⟩
         case measure=>simp [intOf]<;>omega
   · obtain rfl:row=4:=by omega
     go_wp2_with fail
     go_ret
     refine⟨g1,rfl,hm.base (by repeat (first|exact Has.hd|assumption|apply Has.tl)), ?_,hm.x⟩
     have:=hm.row (g:=g1) (by repeat (first|exact Has.hd|assumption|apply Has.tl))
     rwa [show 4*256=1024 from rfl,part_all,part_all]at this
theorem shifted_any(row col:Nat)(hr:row<4)(hc:col<4)(w:World):Calls Tryz.prog 107 #[.int .i64 row, .int .i64 col] w fun e w'=>e= .returned (.int .i64 (shp row col))∧w=w':=by
 obtain⟨q,hq,hq4⟩:∃q:Nat,(col+row)%4=q∧q<4:=⟨_,rfl,Nat.mod_lt _ (by omega)⟩
 have he:((col:Int)+(row:Int))%4=(q:Int):=by omega
 have ht:((col:Int)+(row:Int)).tmod 4=(q:Int):=by rw [Int.tmod_eq_emod_of_nonneg (by omega)];exact he
 have hs:(shp row col:Int)=(row:Int)+4*(q:Int):=by rw [shp,hq];omega
 have Hs:=hid hs
 clear hs hq
 go_enter Tryz.func107,Tryz.ntmps107
 go_wp2
 go_ret
 exact⟨by rw [Hs.out];rfl,rfl⟩
theorem shifted_G(row col:Nat)(hr:row<4)(hc:col<4)(w:World):Gives Tryz.prog 107 #[.int .i64 row, .int .i64 col] w (.int .i64 (shp row col)):= .of_same (shifted_any row col hr hc w)
theorem both_any(a b:List Byte)(ha:a.length=16)(hb:b.length=16)(w0:World):Gives Tryz.prog 108 #[A8 a,A8 b] w0 (A8 (bothL a b)):=by
 unfold Gives
 have hm:=Own.start w0
 have ha1:=Nat.le_of_eq ha
 have ha2:=Nat.le_of_eq ha.symm
 have hb1:=Nat.le_of_eq hb
 have hb2:=Nat.le_of_eq hb.symm
 have Ha:=hid ha
 clear ha hb
 go_enter Tryz.func108,Tryz.ntmps108
 go_wp2_with (first|((first|((with_reducible show qAl);first|(refine zG hm ?_))|((with_reducible show qBx);first|(refine zH hm ?_)));clear hm;(first|(have hx_:=g1;clear hx_;(first|(have hx_:=g2;clear hx_;(first|(have hx_:=g3;clear hx_;intro gx_)|intro g3))|intro g2))|intro g1);intro w hm))
 rw [part_start (f:=fun i=>nth a i^^^nth b i) Ha.out]at hm
 go_loopw [6] (fun i wr=>∃k:Nat,k≤16∧i= .int .i64 k∧Own w0 wr [⟨g3,132,(zer 16).map v8⟩,⟨g2,132,b.map v8⟩,⟨g1,132,(part 16 k (fun i=>nth a i^^^nth b i) (nth a)).map v8⟩]) (fun i _=>16-(intOf i).toNat)
 case atStart=>exact⟨0,by omega,rfl,hm⟩
 case round =>
   obtain⟨k,hk,rfl,hm⟩:=hrel
   by_cases hlt:k<16
   · have e1:nth (part 16 k (fun i=>nth a i^^^nth b i) (nth a)) k=nth a k:=nth_part_ge hlt (Nat.le_refl _)
     go_wp2_with fail
     refine rgE 8 19 ?_
     simp only [tSC,tZe,dSC,dZe,mCo,mNi]
     repeat (first
         | (apply walk_is rfl rfl rfl
            · (intro wx hwx;first|((with_reducible show qGl);first|(exact zJ (hm.ext hwx)))|(go_simp;(try go_bits);first|exact gives_same|exact gives_skip))
            · (simp only [Act.put,sIB,sCS,sCZ];rfl))
         | (apply walk_not rfl rfl rfl
            · (simp only [Act.put,sIB,sCS,sCZ];rfl)))
     intro wz hwz
     simp only [zCC,zNR]
     repeat (first|rw [fin_is]|(rw [fin_cons];intro _ _))
     rw [fin_nil]
     try (replace hm:=hm.ext hwz)
     simp only [Act.put,sIB,sCS,sCZ]
     go_wp2_with (first|((((with_reducible show qSt);first|(refine zD hm ?_)));clear hm;intro w hm))
     go_roundw
     case rel=>
       rw [part_set' hlt rfl]at hm
       exact⟨k+1,by omega,by go_num,hm⟩
     case measure=>simp [intOf]<;>omega
   · obtain rfl:k=16:=by omega
     rw [part_all]at hm
     go_wp2_with (first|((with_reducible show qLd);first|(refine zB hm ?_))|((((with_reducible show qSt);first|(refine zE hm ?_)));clear hm;intro w hm))
     refine ret_own hm rfl rfl (by infer_instance) (by repeat (first|exact Has.hd|assumption|apply Has.tl)) (by first|rfl|omega|(simp only [zeros_length,zer_length,tab_length,part_length,setN_length,List.length_map,List.length_cons,List.length_nil,List.length_append,List.length_take,List.length_drop,List.length_replicate,blk_length,putL_length]<;>omega)) rfl ⟨rfl,hm.x⟩
theorem tcmix(gb row:Nat)(x:Byte)(h:row<4):(tcells gb mixT unmixT)[1+row*256+x.toNat]? =some (v32 (brg mixesL row (bxTo x) 4)):=by
 have:=x.isLt
 rw [tcells_mix_at gb mixT unmixT (row*256+x.toNat) _ (by omega) (by rw [mixT_length];omega),mixT_nth row x h]
theorem tcunmix(gb row:Nat)(x:Byte)(h:row<4):(tcells gb mixT unmixT)[1025+row*256+x.toNat]? =some (v32 (brg unmixesL row x 4)):=by
 have:=x.isLt
 rw [tcells_unmix_at gb mixT unmixT (row*256+x.toNat) _ (by rw [mixT_length];omega) (by rw [unmixT_length];omega),unmixT_nth row x h]
def lastF(b:List Byte)(i:Nat):Byte:=bxTo (nth b (shp (i%4) (i/4)))
theorem last_both(b key:List Byte):bothL (tab 16 (lastF b)) key=last b key:=tab_ext fun i hi=>by rw [nth_tab hi];rfl
theorem last_any(g gb:Nat)(b key:List Byte)(hb:b.length=16)(hk:key.length=16)(w0:World)(h1:Row w0 g 88 (tcells gb mixT unmixT))(h2:Row w0 gb 113 (tabs.map v8)):Gives Tryz.prog 91 #[.pointer (some ⟨g,0,none⟩),A8 b,A8 key] w0 (A8 (last b key)):=by
 unfold Gives
 have hm:=Own.start w0
 have hb1:=Nat.le_of_eq hb
 have hb2:=Nat.le_of_eq hb.symm
 have hk1:=Nat.le_of_eq hk
 have hk2:=Nat.le_of_eq hk.symm
 have HK:=hid hk
 have H1:=hid h1
 have H2:=hid h2
 clear hb hk h1 h2
 go_enter Tryz.func91,Tryz.ntmps91
 go_wp2_with (first|((first|((with_reducible show qAl);first|(refine zG hm ?_))|((with_reducible show qBx);first|(refine zH hm ?_)));clear hm;(first|(have hx_:=g1;clear hx_;(first|(have hx_:=g2;clear hx_;(first|(have hx_:=g3;clear hx_;(first|(have hx_:=g4;clear hx_;intro gx_)|intro g4))|intro g3))|intro g2))|intro g1);intro w hm))
 go_loopw [13] (fun i wr=>∃col:Nat,col≤4∧i= .int .i64 col∧Own w0 wr [⟨g4,132,(part 16 (4*col) (lastF b) fun _=>0).map v8⟩,⟨g3,132,(zer 16).map v8⟩,⟨g2,132,key.map v8⟩,⟨g1,132,b.map v8⟩]) (fun i _=>4-(intOf i).toNat)
 case atStart=>exact⟨0,by omega,rfl,by rw [←zer_start];exact hm⟩
 case round =>
   obtain⟨col,hcol,rfl,hm⟩:=hrel
   by_cases hlt:col<4
   · have hd : decide ((col:Int)<4)=true:=by simp;omega
     go_wp2_with fail
     go_loopw [16] (fun j wr=>∃row:Nat,row≤4∧j= .int .i64 row∧Own w0 wr [⟨g4,132,(part 16 (4*col+row) (lastF b) fun _=>0).map v8⟩,⟨g3,132,(zer 16).map v8⟩,⟨g2,132,key.map v8⟩,⟨g1,132,b.map v8⟩]) (fun j _=>4-(intOf j).toNat)
     case atStart=>exact⟨0,by omega,rfl,hm⟩
     case round =>
       obtain⟨row,hrow,rfl,hm⟩:=hrel
       by_cases hlr:row<4
       · have hs:=shp_lt row col hlr
         have hs2:(shp row col:Int)<16:=by omega
         have hi2:(row:Int)+4*(col:Int)<16:=by omega
         have hi0:(0:Int)≤(row:Int)+4*(col:Int):=by omega
         have hin:((row:Int)+4*(col:Int)).toNat=row+4*col:=by omega
         have e1:lastF b (4*col+row)=bxTo (nth b (shp row col)):=by rw [lastF,show(4*col+row)%4=row from by omega,show(4*col+row)/4=col from by omega]
         have E1:=hid e1
         have HR:=hid (row_ext H1.out hm.x)
         have HB:=hid (row_ext H2.out hm.x)
         clear e1
         go_wp2_with fail
         refine rgE 15 39 ?_
         simp only [tSC,tZe,dSC,dZe,mCo,mNi]
         repeat (first
             | (apply walk_is rfl rfl rfl
                · (intro wx hwx;(with_reducible apply gq_row1 ((fun wx hwx=>row_ext HR.out hwx) wx hwx));infer_instance;exact rfl;(exact tcells_ptr _ _ _))
                · (simp only [Act.put,sIB,sCS,sCZ];rfl))
             | (apply walk_is rfl rfl rfl
                · (intro wx hwx;first|((with_reducible show qGl);first|(exact zJ (hm.ext hwx)))|(go_simp;(try go_bits);first|exact gives_same|exact gives_skip|with_reducible exact gives_call (shifted_G row col hlr hlt wx)|with_reducible exact gives_call (to_G gb _ wx (row_ext HB.out hwx))))
                · (simp only [Act.put,sIB,sCS,sCZ];rfl))
             | (apply walk_not rfl rfl rfl
                · (simp only [Act.put,sIB,sCS,sCZ];rfl)))
         intro wz hwz
         simp only [zCC,zNR]
         repeat (first|rw [fin_is]|(rw [fin_cons];intro _ _))
         rw [fin_nil]
         try (replace hm:=hm.ext hwz)
         simp only [Act.put,sIB,sCS,sCZ]
         go_wp2_with (first|((((with_reducible show qSt);first|(refine zD hm ?_)));clear hm;intro w hm))
         go_roundw
         case rel=>
           rw [show row+4*col=4*col+row from by omega,part_set' (by omega) E1.out.symm]at hm
           exact⟨row+1,by omega,by go_num,hm⟩
         case measure=>simp [intOf]<;>omega
       · obtain rfl:row=4:=by omega
         go_wp2_with fail
         go_roundw
         case rel=>exact⟨col+1,by omega,by go_num,by rw [show 4*(col+1)=4*col+4 from by omega];exact hm⟩
         case measure=>simp [intOf]<;>omega
   · obtain rfl:col=4:=by omega
     rw [show 4*4=16 from rfl,part_all]at hm
     go_wp2_with (first|(go_at_call 108;(with_reducible refine(both_any (tab 16 (lastF b)) key tab_length HK.out _).mono ?_);rintro e_ w ⟨rfl,hx_⟩;replace hm:=hm.ext hx_;clear hx_)|((with_reducible show qLd);first|(refine zB hm ?_))|((((with_reducible show qSt);first|(refine zE hm ?_)));clear hm;intro w hm))
     rw [last_both]at hm
     refine ret_own hm rfl rfl (by infer_instance) (by repeat (first|exact Has.hd|assumption|apply Has.tl)) (by first|rfl|omega|(simp only [zeros_length,zer_length,tab_length,part_length,setN_length,List.length_map,List.length_cons,List.length_nil,List.length_append,List.length_take,List.length_drop,List.length_replicate,blk_length,putL_length]<;>omega)) rfl ⟨rfl,hm.x⟩
theorem sw_shl(x:Byte)(s:Nat)(h:s≤24):((x.setWidth 64)<<<s).setWidth 32=x.setWidth 32<<<s:=by
 apply BitVec.eq_of_getLsbD_eq;intro i hi
 simp [hi,show i<64 by omega]
theorem word_colW(b key:List Byte)(col:Nat)(hk:key.length=16)(hc:col<4):(num key (4*(col:Int)) 4).setWidth 32=colW b key col 0:=by
 have hg:∀k:Nat,k<4→gb key (4*(col:Int)+(k:Int))=nth key (4*col+k):=by
   intro k h
   unfold gb
   rw [if_pos (by omega),show(4*(col:Int)+(k:Int)).toNat=4*col+k from by omega];rfl
 have h0:=hg 0 (by omega)
 have h1:=hg 1 (by omega)
 have h2:=hg 2 (by omega)
 have h3:=hg 3 (by omega)
 simp only [num,h0,h1,h2,h3,colW,BitVec.setWidth_or,Nat.mul_zero,Nat.add_zero]
 rw [sw_shl _ 0 (by omega),sw_shl _ (8*1) (by omega),sw_shl _ (8*2) (by omega),sw_shl _ (8*3) (by omega)]
 simp
theorem word_G(b key:List Byte)(p:Option Addr)(c col:Nat)(hk:key.length=16)(hc:col<4)(w:World)(hr:RdB w p key):Gives Tryz.prog 84 #[.slice p 16 c, .int .i64 (4*(col:Int))] w (v32 (colW b key col 0)):=by
 have h:=word_any key p c (4*(col:Int)) w hr (by omega) (by omega) (by omega)
 rwa [word_colW b key col hk hc,hk]at h
theorem putL_byteW(n:BitVec 32)(f:Nat→Byte)(k:Nat)(h:∀r,r<4→byteW n r=f (k+r)):putL (n.setWidth 64) 4=[f k,f (k+1),f (k+2),f (k+3)]:=by
 have e:putL (n.setWidth 64) 4=[byteW n 0,byteW n 1,byteW n 2,byteW n 3]:=by
   show [((n.setWidth 64)>>>(8*0)).setWidth 8,((n.setWidth 64)>>>(8*1)).setWidth 8,((n.setWidth 64)>>>(8*2)).setWidth 8,((n.setWidth 64)>>>(8*3)).setWidth 8]=_
   rw [put32_byte,put32_byte,put32_byte,put32_byte];rfl
 rw [e,h 0 (by omega),h 1 (by omega),h 2 (by omega),h 3 (by omega)];rfl
theorem over_col(n:BitVec 32)(f:Nat→Byte)(col m:Nat)(hc:col<4)(hm:4≤m)(h:∀r,r<4→byteW n r=f (4*col+r)):over (part 16 (4*col) f fun _=>0) (4*col) ((putL (n.setWidth 64) 4).take m)=part 16 (4*col+4) f fun _=>0:=by
 rw [putL_byteW n f (4*col) h,List.take_of_length_le (by simpa using hm)]
 rcases (show col=0∨col=1∨col=2∨col=3 by omega)with rfl|rfl|rfl|rfl<;>rfl
theorem rndB_col(b key:List Byte)(col:Nat)(r:Nat)(h:r<4):byteW (colW b key col 4) r=rndB b key (4*col+r):=by
 rw [rndB,show(4*col+r)/4=col from by omega,show(4*col+r)%4=r from by omega]
attribute [local simp] putL_length
theorem round_any(g gb:Nat)(b key:List Byte)(hb:b.length=16)(hk:key.length=16)(w0:World)(h1:Row w0 g 88 (tcells gb mixT unmixT)):Gives Tryz.prog 106 #[.pointer (some ⟨g,0,none⟩),A8 b,A8 key] w0 (A8 (rnd b key)):=by
 unfold Gives
 have hm:=Own.start w0
 have hb1:=Nat.le_of_eq hb
 have hb2:=Nat.le_of_eq hb.symm
 have hk1:=Nat.le_of_eq hk
 have hk2:=Nat.le_of_eq hk.symm
 have HK:=hid hk
 have H1:=hid h1
 clear hb hk h1
 go_enter Tryz.func106,Tryz.ntmps106
 go_wp2_with (first|((first|((with_reducible show qAl);first|(refine zG hm ?_))|((with_reducible show qBx);first|(refine zH hm ?_)));clear hm;(first|(have hx_:=g1;clear hx_;(first|(have hx_:=g2;clear hx_;(first|(have hx_:=g3;clear hx_;(first|(have hx_:=g4;clear hx_;intro gx_)|intro g4))|intro g3))|intro g2))|intro g1);intro w hm))
 go_loopw [15] (fun i wr=>∃col:Nat,col≤4∧i= .int .i64 col∧Own w0 wr [⟨g4,132,(part 16 (4*col) (rndB b key) fun _=>0).map v8⟩,⟨g3,132,(zer 16).map v8⟩,⟨g2,132,key.map v8⟩,⟨g1,132,b.map v8⟩]) (fun i _=>4-(intOf i).toNat)
 case atStart=>exact⟨0,by omega,rfl,by rw [←zer_start];exact hm⟩
 case round =>
   obtain⟨col,hcol,rfl,hm⟩:=hrel
   by_cases hlt:col<4
   · have hd : decide ((col:Int)<4)=true:=by simp;omega
     go_wp2_with (first|(go_at_call 84;(with_reducible refine(word_G b key _ _ col HK.out hlt _ (hm.rdB (by repeat (first|exact Has.hd|assumption|apply Has.tl)))).mono ?_);rintro e_ w ⟨rfl,hx_⟩;replace hm:=hm.ext hx_;clear hx_))
     go_loopw [9,22] (fun n j wr=>∃row:Nat,row≤4∧j= .int .i64 row∧n=v32 (colW b key col row)∧Own w0 wr [⟨g4,132,(part 16 (4*col) (rndB b key) fun _=>0).map v8⟩,⟨g3,132,(zer 16).map v8⟩,⟨g2,132,key.map v8⟩,⟨g1,132,b.map v8⟩]) (fun _ j _=>4-(intOf j).toNat)
     case atStart=>exact⟨0,by omega,rfl,rfl,hm⟩
     case round =>
       obtain⟨row,hrow,rfl,rfl,hm⟩:=hrel
       by_cases hlr:row<4
       · have hs:=shp_lt row col hlr
         have hs2:(shp row col:Int)<16:=by omega
         have hx8:∀x:Byte,(x.toNat:Int)<256:=fun x=>by have:=x.isLt;omega
         have hx9:=hx8 (nth b (shp row col))
         clear hx8
         have e1:colW b key col (row+1)=colW b key col row^^^brg mixesL row (bxTo (nth b (shp row col))) 4:=rfl
         have E1:=hid e1
         have HR:=hid (row_ext H1.out hm.x)
         clear e1
         go_wp2_with fail
         refine rgE 14 49 ?_
         simp only [tSC,tZe,dSC,dZe,mCo,mNi]
         repeat (first
             | (apply walk_is rfl rfl rfl
                · (intro wx hwx;(with_reducible apply gq_row1 ((fun wx hwx=>row_ext HR.out hwx) wx hwx));infer_instance;exact rfl;(exact tcmix _ _ _ hlr))
                · (simp only [Act.put,sIB,sCS,sCZ];rfl))
             | (apply walk_is rfl rfl rfl
                · (intro wx hwx;first|((with_reducible show qGl);first|(exact zJ (hm.ext hwx)))|(go_simp;(try go_bits);first|exact gives_same|exact gives_skip|with_reducible exact gives_call (shifted_G row col hlr hlt wx)))
                · (simp only [Act.put,sIB,sCS,sCZ];rfl))
             | (apply walk_not rfl rfl rfl
                · (simp only [Act.put,sIB,sCS,sCZ];rfl)))
         intro wz hwz
         simp only [zCC,zNR]
         repeat (first|rw [fin_is]|(rw [fin_cons];intro _ _))
         rw [fin_nil]
         try (replace hm:=hm.ext hwz)
         simp only [Act.put,sIB,sCS,sCZ]
         go_wp2_with fail
         go_roundw
         case rel=>exact⟨row+1,by omega,by go_num,by rw [E1.out],hm⟩
         case measure=>simp [intOf]<;>omega
       · obtain rfl:row=4:=by omega
         go_wp2_with (first|(go_at_call 83;(with_reducible refine(putword_any _ _).mono ?_);rintro e_ w ⟨rfl,hx_⟩;replace hm:=hm.ext hx_;clear hx_)|((((with_reducible show qSt);first|(refine zE hm ?_)));clear hm;intro w hm)|((first|((with_reducible show qAl);first|(refine zG hm ?_)));clear hm;(first|(have hx_:=g1;clear hx_;(first|(have hx_:=g2;clear hx_;(first|(have hx_:=g3;clear hx_;(first|(have hx_:=g4;clear hx_;intro gx_)|intro g4))|intro g3))|intro g2))|intro g1);intro w hm))
         have hl0:(0:Int)≤4*(col:Int):=by omega
         have hl1:4*(col:Int)≤16:=by omega
         have hl2:(4*(col:Int)).toNat=4*col:=by omega
         have hl3:16≠4*col:=by omega
         have hl4:¬16=4*col:=hl3
         refine rgE 4 49 ?_
         simp only [tSC,tZe,dSC,dZe,mCo,mNi]
         repeat (first
             | (apply walk_is rfl rfl rfl
                · (intro wx hwx;go_simp;(try go_bits);first|exact gives_same|exact gives_skip)
                · (simp only [Act.put,sIB,sCS,sCZ];rfl))
             | (apply walk_not rfl rfl rfl
                · (simp only [Act.put,sIB,sCS,sCZ];rfl)))
         intro wz hwz
         simp only [zCC,zNR]
         repeat (first|rw [fin_is]|(rw [fin_cons];intro _ _))
         rw [fin_nil]
         try (replace hm:=hm.ext hwz)
         simp only [Act.put,sIB,sCS,sCZ]
         refine wpl_cp8 hm rfl rfl rfl rfl rfl (by kernel_rfl) (by repeat (first|exact Swap.hd|assumption|apply Swap.tl)) (hm.rdB (by repeat (first|exact Has.hd|assumption|apply Has.tl))) (putL_length _ _).symm (over_col _ (rndB b key) col _ hlt (by omega) (rndB_col b key col)) (by simp;omega) ?_
         clear hm
         intro w hm
         go_wp2_with fail
         go_roundw
         case rel=>exact⟨col+1,by omega,by go_num,by rw [show 4*(col+1)=4*col+4 from by omega];exact hm.drop⟩
         case measure=>simp [intOf]<;>omega
   · obtain rfl:col=4:=by omega
     rw [show 4*4=16 from rfl,part_all]at hm
     go_wp2_with (first|((with_reducible show qLd);first|(refine zB hm ?_))|((((with_reducible show qSt);first|(refine zE hm ?_)));clear hm;intro w hm))
     refine ret_own hm rfl rfl (by infer_instance) (by repeat (first|exact Has.hd|assumption|apply Has.tl)) (by first|rfl|omega|(simp only [zeros_length,zer_length,tab_length,part_length,setN_length,List.length_map,List.length_cons,List.length_nil,List.length_append,List.length_take,List.length_drop,List.length_replicate,blk_length,putL_length]<;>omega)) rfl ⟨rfl,hm.x⟩
end Go.Proofs.YtneacgpmjlocjaaGreatDoor
namespace Go.Proofs.YtneacgpmjlocjaaGreatDoor
open Go Go.RowKit
set_option maxRecDepth 100000
def cnt16:List Byte:=[0#8,1#8,2#8,3#8,4#8,5#8,6#8,7#8,8#8,9#8,10#8,11#8,12#8,13#8,14#8,15#8]
attribute [local simp] rnd_length last_length
end Go.Proofs.YtneacgpmjlocjaaGreatDoor
namespace Go.Proofs.YtneacgpmjlocjaaGreatDoor
open Go Go.RowKit
set_option maxRecDepth 100000
def boxTab:List Byte:=tab 256 fun a=>sbox (BitVec.ofNat 8 a)
def subL(t b:List Byte):List Byte:=tab 16 fun i=>nth t (nth b i).toNat
def shiftF(b:List Byte)(i:Nat):Byte:=nth b (shp (i%4) (i/4))
def shiftL(b:List Byte):List Byte:=tab 16 (shiftF b)
def mixB(by_ b:List Byte)(i:Nat):Nat→Byte
 |0=>0#8
 |k+1=>mixB by_ b i k^^^tms (nth by_ ((k+4-i%4)%4)) (nth b (4*(i/4)+k))
def mixL(by_ b:List Byte):List Byte:=tab 16 fun i=>mixB by_ b i 4
theorem take256_length:(tabs.take 256).length=256:=by simp [tabs_length]
attribute [local simp] take256_length
theorem gq_build {P:Program}{dst:Option Tmp}{ty:TypeId}{pos:String}{aft:Array Edge}{gd:Option (Nat×Bool)}{a:Act}{w:World}{T:TypeId}{v:Value}{parts:Array (Nat×Operand)}{vs:Array (Nat×Value)}(hb:∀w,(Instr.build T vs).run P w= .ok v w)(hp:parts.map (fun p=>(p.1,a.eval p.2))=vs):gives P w (Is v) ((execOp a.eval (Oper.mk dst (.build T parts) ty pos aft gd)).run P w):=by
 subst hp
 have h:=hb w
 unfold execOp
 simp only [Sem.run_bind,h,Result.andThen_ok,Sem.run_pure]
 exact gives_same
end Go.Proofs.YtneacgpmjlocjaaGreatDoor
namespace Go.Proofs.YtneacgpmjlocjaaGreatDoor
open Go Go.RowKit
set_option maxRecDepth 100000
def makeT:Nat→List Byte
 |0=>boxTab++zer 256
 |k+1=>setN (makeT k) (256+(nth (makeT k) k).toNat) (BitVec.ofNat 8 k)
theorem boxTab_length:boxTab.length=256:=tab_length
theorem makeT_length(k:Nat):(makeT k).length=512:=by
 induction k with
 |zero=>rw [makeT,List.length_append,boxTab_length,zer_length]
 |succ k ih=>rw [makeT,setN_length,ih]
attribute [local simp] makeT_length
end Go.Proofs.YtneacgpmjlocjaaGreatDoor
namespace Go.Proofs.YtneacgpmjlocjaaGreatDoor
open Go Go.RowKit
set_option maxRecDepth 100000
theorem trounds_any(g gb:Nat)(b:List Byte)(ks:List (List Byte))(p:Option Addr)(c:Nat)(hb:b.length=16)(w0:World)(hk:RdK w0 p 16 ks)(hc:ks.length≤c)(hcm:ks.length≤70368744177664)(h1:Row w0 g 88 (tcells gb mixT unmixT)):Gives Tryz.prog 89 #[.pointer (some ⟨g,0,none⟩),A8 b, .slice p ks.length c] w0 (A8 (rnds b ks)):=by
 unfold Gives
 have hm:=Own.start w0
 have hb1:=Nat.le_of_eq hb
 have hb2:=Nat.le_of_eq hb.symm
 have H1:=hid h1
 have HK:=hid hk
 have HB:=hid hb
 clear hb h1 hk
 go_enter Tryz.func89,Tryz.ntmps89
 go_wp2_with (first|((first|((with_reducible show qAl);first|(refine zG hm ?_))|((with_reducible show qBx);first|(refine zH hm ?_)));clear hm;(first|(have hx_:=g1;clear hx_;(first|(have hx_:=g2;clear hx_;intro gx_)|intro g2))|intro g1);intro w hm))
 go_loopw [14] (fun i wr=>∃k:Nat,k≤ks.length∧i= .int .i64 k∧Own w0 wr [⟨g2,132,(zer 16).map v8⟩,⟨g1,132,(rnds b (ks.take k)).map v8⟩]) (fun i _=>ks.length-(intOf i).toNat)
 case atStart=>exact⟨0,by omega,rfl,hm⟩
 case round=>
   obtain⟨k,hk,rfl,hm⟩:=hrel
   have hB:=rnds_length (ks.take k) b HB.out
   by_cases hlt:k<ks.length
   · obtain⟨a,rfl⟩:=HK.out.addr (by omega) (by omega)
     obtain⟨hK,hKl⟩:=HK.out.at (by omega) k hlt
     have hS:=rnds_take b ks k hlt
     simp only [Option.getD_some]at hK
     generalize rnds b (ks.take k)=B at*
     generalize ks.getD k []=K at*
     have HS:=hid hS
     have HK2:=hid hK
     have CR:=hid fun wx h=>round_any g gb B K hB hKl wx h
     have hl1:(rnd B K).length=16:=rnd_length _ _
     generalize rnd B K=C at*
     clear hK
     go_wp2_with (first|(go_at_call 106;(with_reducible refine(CR.out _ (row_ext H1.out hm.x)).mono ?_);rintro e_ w ⟨rfl,hx_⟩;replace hm:=hm.ext hx_;clear hx_)|((with_reducible apply wq_rdW (HK2.out.ext hm.x));exact rfl;infer_instance;exact rfl;exact hKl)|((with_reducible show qLd);first|(refine zB hm ?_))|((((with_reducible show qSt);first|(refine zE hm ?_)));clear hm;intro w hm)|((first|((with_reducible show qAl);first|(refine zG hm ?_)));clear hm;(first|(have hx_:=g1;clear hx_;(first|(have hx_:=g2;clear hx_;intro gx_)|intro g2))|intro g1);intro w hm))
     go_roundw
     case rel=>exact⟨k+1,by omega,by go_num,by rw [HS.out];exact hm.drop⟩
     case measure=>simp [intOf]<;>omega
   · obtain rfl:k=ks.length:=by omega
     rw [List.take_length]at hm hB
     go_wp2_with (first|((with_reducible show qLd);first|(refine zB hm ?_))|((((with_reducible show qSt);first|(refine zE hm ?_)));clear hm;intro w hm))
     refine ret_own hm rfl rfl (by infer_instance) (by repeat (first|exact Has.hd|assumption|apply Has.tl)) (by first|rfl|omega|(simp only [zeros_length,zer_length,tab_length,part_length,setN_length,List.length_map,List.length_cons,List.length_nil,List.length_append,List.length_take,List.length_drop,List.length_replicate,blk_length,putL_length]<;>omega)) rfl ⟨rfl,hm.x⟩
theorem tbox_any(g gb:Nat)(a:Byte)(w:World)(h1:Row w g 88 (tcells gb mixT unmixT))(h2:Row w gb 113 (tabs.map v8)):Calls Tryz.prog 30 #[.pointer (some ⟨g,0,none⟩),v8 a] w fun e w'=>e= .returned (v8 (bxTo a))∧w=w':=by
 have hc:w.cell? ⟨g,0,none⟩=some (.pointer (some ⟨gb,0,none⟩)):=by rw [row_cell h1 0];exact tcells_ptr _ _ _
 have H2:=hid h2
 clear h1 h2
 go_enter Tryz.func30,Tryz.ntmps30
 go_wp2_with fail
 refine(to_any gb a w H2.out).mono ?_
 rintro e w' ⟨rfl,rfl⟩
 go_wp2
 go_ret
 exact⟨rfl,rfl⟩
def shiftBL(b:List Byte):List Byte:=tab 16 fun i=>nth b (ush i)
end Go.Proofs.YtneacgpmjlocjaaGreatDoor
