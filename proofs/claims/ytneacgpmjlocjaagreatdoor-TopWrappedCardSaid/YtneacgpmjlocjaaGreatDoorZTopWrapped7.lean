/-
  Texts of the program, walked, and plain ones. Conditions: those written in each theorem.
-/
import Derived.Test.YtneacgpmjlocjaaGreatDoorZTopWrapped0
import Derived.Test.YtneacgpmjlocjaaGreatDoorZTopWrapped3
import Derived.Test.YtneacgpmjlocjaaGreatDoorZTopWrapped4
import Derived.RegionTactic
import Derived.ChangeAlike
import Derived.Test.YtneacgpmjlocjaaGreatDoorZTopWrapped6
set_option linter.unusedSimpArgs false
set_option linter.unusedVariables false
set_option maxHeartbeats 16000000
open Go.Lib (hid)
namespace Go.Proofs.YtneacgpmjlocjaaGreatDoor
open Go Go.RowKit
set_option maxRecDepth 100000
theorem double_any(a:Byte)(w:World):Calls Tryz.prog 49 #[v8 a] w fun e w'=>e= .returned (v8 (dbl a))∧w=w':=by
 go_enter Tryz.func49,Tryz.ntmps49
 go_wp2
 go_ret
 exact⟨rfl,rfl⟩
theorem shr_lt(b:Byte)(h:b≠0#8):(b>>>1).toNat<b.toNat:=by
 have:b.toNat≠0:=fun e=>h (BitVec.eq_of_toNat_eq e)
 simp only [BitVec.toNat_ushiftRight,Nat.shiftRight_eq_div_pow];omega
theorem shr_fit(b:Byte)(n:Nat)(h:b.toNat<2^(n+1)):(b>>>1).toNat<2^n:=by
 simp only [BitVec.toNat_ushiftRight,Nat.shiftRight_eq_div_pow];rw [Nat.pow_succ]at h;omega
theorem times_any(a0 b0:Byte)(w:World):Calls Tryz.prog 70 #[v8 a0,v8 b0] w fun e w'=>e= .returned (v8 (tms a0 b0))∧w=w':=by
 have h0:=tmsF_tms a0 b0
 have hb0:b0.toNat<2^8:=b0.isLt
 generalize tms a0 b0=R at*
 have H0:=hid h0
 have Hb0:=hid hb0
 clear h0 hb0
 go_enter Tryz.func70,Tryz.ntmps70
 go_wp2
 refine wp_scope_goto 0 (fun a_ w_=>∃(a b s:Byte)(n:Nat)(u2 u3 u6 u7 u8 u9 u10 u11 u12 u13 u14 u15 u16 u17 u18:Value),a_={tmps:= #[v8 a,v8 b,u2,u3,(.int .u8 0),v8 s,u6,u7,u8,u9,u10,u11,u12,u13,u14,u15,u16,u17,u18],defers:=[]}∧b.toNat<2^n∧tmsF n a b s=R∧w=w_) (fun a_ _=>(intOf (a_.tmps.getD 1 undef)).toNat) rfl ?_ ?_
 · rintro a' w' ⟨a,b,s,n,u2,u3,u6,u7,u8,u9,u10,u11,u12,u13,u14,u15,u16,u17,u18,rfl,⟨hn,hR,rfl⟩⟩
   have Hn:=hid hn
   have HR:=hid hR
   clear hn hR
   by_cases hb:b=0#8
   · subst hb
     have hr:=HR.out
     rw [tmsF_end]at hr
     have Hr:=hid hr
     clear hr
     go_wp2
     simp only [Exit.jump]
     go_ret
     exact⟨by rw [Hr.out];rfl,rfl⟩
   · have hb2:(b==0#8)=false:=by simpa using hb
     have hlt:=shr_lt b hb
     have Hlt:=hid hlt
     have Hb:=hid hb
     clear hb hlt
     go_wp2_with (go_at_call 49;(with_reducible refine(double_any _ _).mono ?_);rintro e w' ⟨rfl,rfl⟩)
     go_step3
     cases n with
     |zero=>exact absurd Hn.out (by have:=Hb.out;intro h;exact this (BitVec.eq_of_toNat_eq (by simp at h⊢;omega)))
     |succ n=>exact⟨rfl,⟨_,_,_,_,_,_,_,_,_,_,_,_,_,_,_,_,_,_,_,rfl,⟨shr_fit b n Hn.out,HR.out,rfl⟩⟩,Hlt.out⟩
 · intro hp
   go_wp2
   go_step3
   rename_i hK
   exact hK _ _ (hp _ _ ⟨_,_,_,_,_,_,_,_,_,_,_,_,_,_,_,_,_,_,_,rfl,⟨Hb0.out,H0.out,rfl⟩⟩)
theorem rotl_any(x:Byte)(k:Nat)(w:World)(hk:k<8):Calls Tryz.prog 71 #[v8 x, .int .i64 k] w fun e w'=>e= .returned (v8 (rotl8 x k))∧w=w':=by
 have hb:bits .and .u64 (k:Int) 7=k:=by
   have:∀k:Nat,k<8→bits .and .u64 (k:Int) 7=k:=by decide
   exact this k hk
 have h8:((8:Int)-(k:Int)).toNat=8-k:=by omega
 go_enter Tryz.func71,Tryz.ntmps71
 go_wp2
 go_ret
 exact⟨rfl,rfl⟩
theorem box_any(i:Byte)(w:World):Calls Tryz.prog 51 #[v8 i] w fun e w'=>e= .returned (v8 (boxF i 5))∧w=w':=by
 go_enter Tryz.func51,Tryz.ntmps51
 go_wp2
 go_loop [3,5] (fun o k=>∃n:Nat,n≤5∧k= .int .i64 n∧o=v8 (boxF i n)) (fun _ k=>5-(intOf k).toNat)
 case atStart=>exact⟨0,by omega,rfl,rfl⟩
 case round=>
   obtain⟨n,hn,rfl,rfl⟩:=hrel
   by_cases hlt:n<5
   · go_wp2_with (go_at_call 71;(with_reducible refine(rotl_any _ n _ (by omega)).mono ?_);rintro e w' ⟨rfl,rfl⟩)
     go_round
     case rel=>exact⟨n+1,by omega,by go_num,rfl⟩
     case measure=>simp [intOf]<;>omega
   · obtain rfl:n=5:=by omega
     go_wp2
     go_ret
     exact⟨rfl,rfl⟩
theorem bput_any(g:Nat)(t:TypeId)(l:List Byte)(hl:l.length=512)(a b:Byte)(w0 w:World)(L L':List Blk)(hm:Own w0 w L)(hs:Swap L ⟨g,t,l.map v8⟩ ⟨g,t,(putT l a b).map v8⟩ L'):
   Calls Tryz.prog 50 #[.pointer (some ⟨g,0,none⟩),v8 a,v8 b] w fun e w'=>e= .returned (.tuple #[])∧Own w0 w' L':=by
 obtain⟨M,h1,h2⟩:=hs.split ⟨g,t,(setN l a.toNat b).map v8⟩
 have o1:=hm.turn8 h1
 have o2:=o1.turn8 h2
 have ha:a.toNat<256:=a.isLt
 have hb:b.toNat<256:=b.isLt
 have ha2:(a.toNat:Int)<256:=by omega
 have hb2:(b.toNat:Int)<256:=by omega
 have r0:=hm.row h1.has
 have hc1:=row_v8 r0 a.toNat (by omega)
 have hc2:=row_v8 r0 (256+b.toNat) (by omega)
 have hf1:=row_free r0 a.toNat
 have hf2:=row_free r0 (256+b.toNat)
 have hne:¬a.toNat=256+b.toNat:=by omega
 have O2:=hid o2
 clear o1 o2 h1 h2 hs hm r0 hl
 go_enter Tryz.func50,Tryz.ntmps50
 go_wp2
 go_region
 all_goals
   go_wp2
   go_end0
   exact⟨rfl,O2.out.drew⟩
def BoxesS:Slot:=fun v w=>∃g,v= .pointer (some ⟨g,0,none⟩)∧Row w g 113 (tabs.map v8)
theorem BoxesS.stable:Stable BoxesS:=fun _ _ _ ⟨g,h1,h2⟩ hx=>⟨g,h1,row_ext h2 hx⟩
theorem build_boxes(w:World):(Instr.build 113 #[]).run Tryz.prog w= .ok (.agg ((zer (n:=8) 512).map v8).toArray) w:=by kernel_rfl
theorem box_anyG(i:Byte)(w:World):Gives Tryz.prog 51 #[v8 i] w (v8 (boxF i 5)):= .of_same (box_any i w)
theorem box0_any(w:World):Calls Tryz.prog 51 #[.int .u8 0] w fun e w'=>e= .returned (v8 (boxF 0#8 5))∧w=w':=box_any 0#8 w
theorem pow_mod(k:Nat)(h:k<255):((255:Int)-(k:Int)).tmod 255=(((255-k)%255:Nat):Int):=by
 rw [Int.tmod_eq_emod_of_nonneg (by omega)];omega
theorem make_new(w0:World):Calls Tryz.prog 38 #[] w0 fun e w'=>∃g,e= .returned (.pointer (some ⟨g,0,none⟩))∧w0.heap.size≤g∧Row w' g 113 (tabs.map v8)∧Ext w0 w':=by
 have hm:=Own.start w0
 go_enter Tryz.func38,Tryz.ntmps38
 go_wp2_with (first|(((with_reducible show qAl);refine zG hm ?_);clear hm;(first|(have hx_:=g1;clear hx_;(first|(have hx_:=g2;clear hx_;intro gx_)|intro g2))|intro g1);intro w hm))
 go_loopw [2,6] (fun e i wr=>∃k:Nat,k≤255∧i= .int .i64 k∧e=v8 (pws k)∧Own w0 wr [⟨g1,110,(part 255 k pws fun _=>0).map v8⟩]) (fun _ i _=>255-(intOf i).toNat)
 case atStart=>exact⟨0,by omega,rfl,rfl,by rw [←zer_start];exact hm⟩
 case round =>
   obtain⟨k,hk,rfl,rfl,hm⟩:=hrel
   by_cases hlt:k<255
   · go_wp2_with (first|(go_at_call 49;(with_reducible refine(double_any _ _).mono ?_);rintro e w' ⟨rfl,rfl⟩)|((with_reducible show qSt);refine zD hm ?_;clear hm;intro w hm))
     go_roundw
     case rel=>
       rw [part_set' hlt rfl]at hm
       exact⟨k+1,by omega,by go_num,rfl,hm⟩
     case measure=>simp [intOf]<;>omega
   · obtain rfl :k=255:=by omega
     rw [part_all]at hm
     go_wp2_with (first|(go_at_call 51;(with_reducible refine(box0_any _).mono ?_);rintro e w' ⟨rfl,rfl⟩)|((with_reducible apply wq_build0 build_boxes);exact rfl)|(((with_reducible show qBx);refine zH hm ?_);clear hm;(first|(have hx_:=g1;clear hx_;(first|(have hx_:=g2;clear hx_;intro gx_)|intro g2))|intro g1);intro w hm))
     refine(bput_any _ _ (zer 512) zer_length 0#8 (boxF 0#8 5) w0 _ _ _ hm (by repeat (first|exact Swap.hd|assumption|apply Swap.tl))).mono ?_
     rintro e w ⟨rfl,hm⟩
     go_wp2_with fail
     go_loopw [22] (fun i wr=>∃k:Nat,k≤255∧i= .int .i64 k∧Own w0 wr [⟨g2,113,(tabT k).map v8⟩,⟨g1,110,(tab 255 pws).map v8⟩]) (fun i _=>255-(intOf i).toNat)
     case atStart=>exact⟨0,by omega,rfl,hm⟩
     case round =>
       obtain⟨k,hk,rfl,hm⟩:=hrel
       by_cases hlt:k<255
       · have hmod:=pow_mod k hlt
         have hq:(255-k)%255<255:=Nat.mod_lt _ (by omega)
         have e1:nth (tab 255 pws) k=pws k:=nth_tab hlt
         have e2:nth (tab 255 pws) ((255-k)%255)=pws ((255-k)%255):=nth_tab hq
         generalize hqq:(255-k)%255=q at*
         have hq2:(q:Int)<255:=by omega
         have hwr:IntKind.i64.wrap (255-(k:Int))=255-(k:Int):=IntWalk.i64_in _ (by omega)
         have Hqq:=hid hqq
         clear hqq
         go_wp2_with fail
         refine rgE 10 38 ?_
         simp only [zTa]
         repeat (first
             | (apply walk_is rfl rfl rfl
                · (intro wx hwx;first|((with_reducible show qGl);exact zJ (hm.ext hwx))|(go_simp;(try go_bits);first|exact gives_same|exact gives_skip|with_reducible exact gives_call (box_anyG _ wx)))
                · (simp only [zPu];rfl))
             | (apply walk_not rfl rfl rfl
                · (simp only [zPu];rfl)))
         intro wz hwz
         simp only [zZi]
         repeat (first|rw [fin_is]|(rw [fin_cons];intro _ _))
         rw [fin_nil]
         try (replace hm:=hm.ext hwz)
         simp only [zPu]
         go_wp2_with fail
         refine(bput_any g2 _ (tabT k) (tabT_length k) _ _ w0 _ _ _ hm (by repeat (first|exact Swap.hd|assumption|apply Swap.tl))).mono ?_
         rintro e w ⟨rfl,hm⟩
         have hT:putT (tabT k) (pws k) (boxF (pws q) 5)=tabT (k+1):=by rw [tabT,Hqq.out]
         first|rw [e1,e2,hT]at hm|rw [hT]at hm
         go_wp2
         go_roundw
         case rel=>exact⟨k+1,by omega,by go_num,hm⟩
         case measure=>simp [intOf]<;>omega
       · obtain rfl:k=255:=by omega
         go_wp2_with fail
         go_ret
         exact⟨g2,rfl,hm.base (by repeat (first|exact Has.hd|assumption|apply Has.tl)),hm.row (by repeat (first|exact Has.hd|assumption|apply Has.tl)),hm.x⟩
theorem to_any(g:Nat)(a:Byte)(w:World)(h:Row w g 113 (tabs.map v8)):Calls Tryz.prog 41 #[.pointer (some ⟨g,0,none⟩),v8 a] w fun e w'=>e= .returned (v8 (bxTo a))∧w=w':=by
 have ha:a.toNat<256:=a.isLt
 have ha2:(a.toNat:Int)<256:=by omega
 have hc:w.cell? ⟨g,a.toNat,none⟩=some (v8 (bxTo a)):=by rw [row_v8 h a.toNat (by rw [tabs_length];omega)];rfl
 clear h
 go_enter Tryz.func41,Tryz.ntmps41
 go_wp2
 go_ret
 exact⟨rfl,rfl⟩
theorem back_any(g:Nat)(a:Byte)(w:World)(h:Row w g 113 (tabs.map v8)):Calls Tryz.prog 172 #[.pointer (some ⟨g,0,none⟩),v8 a] w fun e w'=>e= .returned (v8 (bxBack a))∧w=w':=by
 have ha:a.toNat<256:=a.isLt
 have ha2:(a.toNat:Int)<256:=by omega
 have hc:w.cell? ⟨g,256+a.toNat,none⟩=some (v8 (bxBack a)):=by rw [row_v8 h (256+a.toNat) (by rw [tabs_length];omega)];rfl
 clear h
 go_enter Tryz.func172,Tryz.ntmps172
 go_wp2
 go_ret
 exact⟨rfl,rfl⟩
theorem brings_any(by_:List Byte)(row:Nat)(a:Byte)(w0:World)(hb:by_.length=4)(hr:row<4):Gives Tryz.prog 48 #[A8 by_, .int .i64 row,v8 a] w0 (v32 (brg by_ row a 4)):=by
 unfold Gives
 have hb1:=Nat.le_of_eq hb
 have hb2:=Nat.le_of_eq hb.symm
 clear hb
 have hm:=Own.start w0
 go_enter Tryz.func48,Tryz.ntmps48
 go_wp2_with (first|(((with_reducible show qBx);refine zH hm ?_);clear hm;intro gx_;intro w hm))
 go_loop [7,9] (fun n i=>∃r:Nat,r≤4∧i= .int .i64 r∧n=v32 (brg by_ row a r)) (fun _ i=>4-(intOf i).toNat)
 case atStart=>exact⟨0,by omega,rfl,rfl⟩
 case round=>
   obtain⟨r,hr4,rfl,rfl⟩:=hrel
   by_cases hlt:r<4
   · obtain⟨q,hq,hq4⟩:∃q:Nat,(row+4-r)%4=q∧q<4:=⟨_,rfl,Nat.mod_lt _ (by omega)⟩
     have he:((row:Int)-(r:Int)+4)%4=(q:Int):=by omega
     have ht:((row:Int)-(r:Int)+4).tmod 4=(q:Int):=by rw [Int.tmod_eq_emod_of_nonneg (by omega)];exact he
     have h8:((8:Int)*(r:Int)).toNat=8*r:=by omega
     have h80:0≤(8:Int)*(r:Int):=by omega
     have hB:brg by_ row a (r+1)=brg by_ row a r|||((tms (nth by_ q) a).setWidth 32<<<(8*r)):=by rw [brg,hq]
     have HB:=hid hB
     clear hB hq
     go_wp2_with (first|(go_at_call 70;(with_reducible refine(times_any _ _ _).mono ?_);rintro e_ w_ ⟨rfl,rfl⟩)|((with_reducible show qLd);refine zA hm ?_))
     go_round
     case rel=>exact⟨r+1,by omega,by go_num,by rw [HB.out]⟩
     case measure=>simp [intOf]<;>omega
   · obtain rfl:r=4:=by omega
     go_wp2_with fail
     go_ret
     exact⟨rfl,hm.x⟩
def tcells(gb:Nat)(M U:List (BitVec 32)):List Value:= .pointer (some ⟨gb,0,none⟩)::(M.map v32++U.map v32)
@[simp] theorem tcells_length (gb : Nat) (M U : List (BitVec 32)) : (tcells gb M U).length = 1 + M.length + U.length := by simp [tcells]; omega
theorem tcells_mix(gb:Nat)(M U:List (BitVec 32))(i k:Nat)(x:BitVec 32)(hk:k=1+i)(hi:i<M.length):(tcells gb M U).set k (v32 x)=tcells gb (setN M i x) U:=by
 subst hk
 rw [Nat.add_comm]
 simp only [tcells,sCS]
 rw [List.set_append_left _ _ (by simpa using hi),mapv_set]
theorem tcells_unmix(gb:Nat)(M U:List (BitVec 32))(i k:Nat)(x:BitVec 32)(hk:k=1+M.length+i):(tcells gb M U).set k (v32 x)=tcells gb M (setN U i x):=by
 subst hk
 rw [show 1+M.length+i=(M.length+i)+1 from by omega]
 simp only [tcells,sCS]
 rw [List.set_append_right _ _ (by simp),List.length_map,Nat.add_sub_cancel_left,mapv_set]
theorem tcells_ptr(gb:Nat)(M U:List (BitVec 32)):(tcells gb M U)[0]? =some (.pointer (some ⟨gb,0,none⟩)):=rfl
theorem tcells_mix_at(gb:Nat)(M U:List (BitVec 32))(i k:Nat)(hk:k=1+i)(hi:i<M.length):(tcells gb M U)[k]? =some (v32 (nth M i)):=by
 subst hk
 rw [Nat.add_comm]
 simp only [tcells,List.getElem?_cons_succ]
 rw [List.getElem?_append_left (by simpa using hi),mapv_at _ _ hi]
theorem tcells_unmix_at(gb:Nat)(M U:List (BitVec 32))(i k:Nat)(hk:k=1+M.length+i)(hi:i<U.length):(tcells gb M U)[k]? =some (v32 (nth U i)):=by
 subst hk
 rw [show 1+M.length+i=(M.length+i)+1 from by omega]
 simp only [tcells,List.getElem?_cons_succ]
 rw [List.getElem?_append_right (by simp),List.length_map,Nat.add_sub_cancel_left,mapv_at _ _ hi]
theorem build_tables(gb:Nat)(w:World):(Instr.build 88 #[(0, .pointer (some ⟨gb,0,none⟩))]).run Tryz.prog w= .ok (.agg (tcells gb (zer 1024) (zer 1024)).toArray) w:=by kernel_rfl
def Coef(w:World):Prop:=RdB w (some ⟨0,0,none⟩) mixesL∧RdB w (some ⟨1,0,none⟩) unmixesL
theorem Coef.ext {w w':World}(h:Coef w)(hx:Ext w w'):Coef w':=⟨h.1.ext hx,h.2.ext hx⟩
def TabS:Slot:=fun v w=>∃g gb,v= .pointer (some ⟨g,0,none⟩)∧Row w g 88 (tcells gb mixT unmixT)∧Row w gb 113 (tabs.map v8)
theorem TabS.stable:Stable TabS:=fun _ _ _ ⟨g,gb,h1,h2,h3⟩ hx=>⟨g,gb,h1,row_ext h2 hx,row_ext h3 hx⟩
theorem to_G(g:Nat)(a:Byte)(w:World)(h:Row w g 113 (tabs.map v8)):Gives Tryz.prog 41 #[.pointer (some ⟨g,0,none⟩),v8 a] w (v8 (bxTo a)):= .of_same (to_any g a w h)
theorem back_G(g:Nat)(a:Byte)(w:World)(h:Row w g 113 (tabs.map v8)):Gives Tryz.prog 172 #[.pointer (some ⟨g,0,none⟩),v8 a] w (v8 (bxBack a)):= .of_same (back_any g a w h)
theorem natv8 {a:Nat}(h:a<256):Value.int .u8 (a:Int)=v8 (BitVec.ofNat 8 a):=by
 have:(BitVec.ofNat 8 a).toNat=a:=by simp;omega
 rw [v8,this]
theorem tnew_new(gb:Nat)(w0:World)(hb:Row w0 gb 113 (tabs.map v8))(hc:Coef w0):Calls Tryz.prog 37 #[.pointer (some ⟨gb,0,none⟩)] w0 fun e w'=>∃g,e= .returned (.pointer (some ⟨g,0,none⟩))∧w0.heap.size≤g∧Row w' g 88 (tcells gb mixT unmixT)∧Ext w0 w':=by
 have hm:=Own.start w0
 go_enter Tryz.func37,Tryz.ntmps37
 go_wp2_with (first|((with_reducible apply wq_build1 (build_tables gb));exact rfl;exact rfl)|(((with_reducible show qBx);refine zH hm ?_);clear hm;(first|(have hx_:=g1;clear hx_;intro gx_)|intro g1);intro w hm))
 go_loopw [11] (fun i wr=>∃row:Nat,row≤4∧i= .int .i64 row∧Own w0 wr [⟨g1,88,tcells gb (part 1024 (row*256) mixF fun _=>0) (part 1024 (row*256) unmixF fun _=>0)⟩]) (fun i _=>4-(intOf i).toNat)
 case atStart=>exact⟨0,by omega,rfl,by rw [Nat.zero_mul,←zer_start,←zer_start];exact hm⟩
 case round =>
   obtain⟨row,hrow,rfl,hm⟩:=hrel
   by_cases hlt:row<4
   · go_wp2_with fail
     go_loopw [14] (fun j wr=>∃a:Nat,a≤256∧j= .int .i64 a∧Own w0 wr [⟨g1,88,tcells gb (part 1024 (row*256+a) mixF fun _=>0) (part 1024 (row*256+a) unmixF fun _=>0)⟩]) (fun j _=>256-(intOf j).toNat)
     case atStart=>exact⟨0,by omega,rfl,hm⟩
     case round =>
       obtain⟨a,ha,rfl,hm⟩:=hrel
       by_cases hla:a<256
       · have e1:mixF (row*256+a)=brg mixesL row (bxTo (BitVec.ofNat 8 a)) 4:=by rw [mixF,show(row*256+a)/256=row from by omega,show(row*256+a)%256=a from by omega]
         have e2:unmixF (row*256+a)=brg unmixesL row (BitVec.ofNat 8 a) 4:=by rw [unmixF,show(row*256+a)/256=row from by omega,show(row*256+a)%256=a from by omega]
         have E1:=hid e1
         have E2:=hid e2
         clear e1 e2
         go_wp2_with fail
         have hbw:=row_ext hb hm.x
         have hcw:=(hc.ext hm.x).1
         have hT:∀wx,Ext wr wx→Gives Tryz.prog 41 #[.pointer (some ⟨gb,0,none⟩), .int .u8 a] wx (v8 (bxTo (BitVec.ofNat 8 a))):=fun wx hwx=>by rw [natv8 hla];exact to_G _ _ wx (row_ext hbw hwx)
         have HT:=hid hT
         have HM:=hid hcw
         clear hT hbw hcw
         refine rgE 14 46 ?_
         simp only [zTa]
         repeat (first
             | (apply walk_is rfl rfl rfl
                · (intro wx hwx;(with_reducible apply gq_rdW ((fun wx hwx=>HM.out.ext hwx) wx hwx));infer_instance;exact rfl;(focus (first|rfl|omega|(simp;done)|(simp;omega))))
                · (simp only [zPu];rfl))
             | (apply walk_is rfl rfl rfl
                · (intro wx hwx;go_simp;(try go_bits);first|exact gives_same|exact gives_skip|with_reducible exact gives_call (HT.out wx hwx)|with_reducible exact gives_call (brings_any mixesL row _ wx rfl hlt))
                · (simp only [zPu];rfl))
             | (apply walk_not rfl rfl rfl
                · (simp only [zPu];rfl)))
         intro wz hwz
         simp only [zZi]
         repeat (first|rw [fin_is]|(rw [fin_cons];intro _ _))
         rw [fin_nil]
         try (replace hm:=hm.ext hwz)
         simp only [zPu]
         clear HT HM
         go_wp2_with (first|((((with_reducible show qSt);first|((with_reducible apply wq_s1v (f:=v32) hm);exact rfl;infer_instance;exact rfl;exact rfl;infer_instance;(focus (repeat first|exact .hd|assumption|apply Swap.tl);done);(focus (first|omega|(simp;omega)|(refine ltB ?_;first|omega|(simp;done)|(simp;omega)))))));clear hm;intro w hm))
         rw [show 1+row*256+a=1+(row*256+a)from by omega,tcells_mix _ _ _ (row*256+a) _ _ rfl (by rw [part_length];omega),part_set' (show row*256+a<1024 from by omega) E1.out.symm]at hm
         have hcw:=(hc.ext hm.x).2
         have hB:∀wx,Gives Tryz.prog 48 #[A8 unmixesL, .int .i64 row, .int .u8 a] wx (v32 (brg unmixesL row (BitVec.ofNat 8 a) 4)):=fun wx=>by rw [natv8 hla];exact brings_any unmixesL row _ wx rfl hlt
         have HB:=hid hB
         have HM:=hid hcw
         clear hB hcw
         refine rgE 12 46 ?_
         simp only [zTa]
         repeat (first
             | (apply walk_is rfl rfl rfl
                · (intro wx hwx;(with_reducible apply gq_rdW ((fun wx hwx=>HM.out.ext hwx) wx hwx));infer_instance;exact rfl;(focus (first|rfl|omega|(simp;done)|(simp;omega))))
                · (simp only [zPu];rfl))
             | (apply walk_is rfl rfl rfl
                · (intro wx hwx;go_simp;(try go_bits);first|exact gives_same|exact gives_skip|with_reducible exact gives_call (HB.out wx))
                · (simp only [zPu];rfl))
             | (apply walk_not rfl rfl rfl
                · (simp only [zPu];rfl)))
         intro wz hwz
         simp only [zZi]
         repeat (first|rw [fin_is]|(rw [fin_cons];intro _ _))
         rw [fin_nil]
         try (replace hm:=hm.ext hwz)
         simp only [zPu]
         clear HB HM
         go_wp2_with (first|((((with_reducible show qSt);first|((with_reducible apply wq_s1v (f:=v32) hm);exact rfl;infer_instance;exact rfl;exact rfl;infer_instance;(focus (repeat first|exact .hd|assumption|apply Swap.tl);done);(focus (first|omega|(simp;omega)|(refine ltB ?_;first|omega|(simp;done)|(simp;omega)))))));clear hm;intro w hm))
         go_roundw
         case rel=>
           rw [show 1025+row*256+a=1+(part 1024 (row*256+a+1) mixF fun _=>0).length+(row*256+a)from by rw [part_length];omega,tcells_unmix _ _ _ (row*256+a) _ _ rfl,part_set' (show row*256+a<1024 from by omega) E2.out.symm]at hm
           exact⟨a+1,by omega,by go_num,hm⟩
         case measure=>simp [intOf]<;>omega
       · obtain rfl:a=256:=by omega
         go_wp2_with fail
         go_roundw
         case rel=>exact⟨row+1,by omega,by go_num,by rw [show(row+1)*256=row*256+256 from by omega];exact hm⟩
         case measure=>simp [intOf]<;>omega
   · obtain rfl:row=4:=by omega
     go_wp2_with fail
     go_ret
     refine⟨g1,rfl,hm.base (by repeat (first|exact Has.hd|assumption|apply Has.tl)), ?_,hm.x⟩
     have:=hm.row (g:=g1) (by repeat (first|exact Has.hd|assumption|apply Has.tl))
     rwa [show 4*256=1024 from rfl,part_all,part_all]at this
theorem shifted_any(row col:Nat)(hr:row<4)(hc:col<4)(w:World):Calls Tryz.prog 107 #[.int .i64 row, .int .i64 col] w fun e w'=>e= .returned (.int .i64 (shp row col))∧w=w':=by
 obtain⟨q,hq,hq4⟩:∃q:Nat,(col+row)%4=q∧q<4:=⟨_,rfl,Nat.mod_lt _ (by omega)⟩
 have he:((col:Int)+(row:Int))%4=(q:Int):=by omega
 have ht:((col:Int)+(row:Int)).tmod 4=(q:Int):=by rw [Int.tmod_eq_emod_of_nonneg (by omega)];exact he
 have hs:(shp row col:Int)=(row:Int)+4*(q:Int):=by rw [shp,hq];omega
 have Hs:=hid hs
 clear hs hq
 go_enter Tryz.func107,Tryz.ntmps107
 go_wp2
 go_ret
 exact⟨by rw [Hs.out];rfl,rfl⟩
theorem shifted_G(row col:Nat)(hr:row<4)(hc:col<4)(w:World):Gives Tryz.prog 107 #[.int .i64 row, .int .i64 col] w (.int .i64 (shp row col)):= .of_same (shifted_any row col hr hc w)
theorem both_any(a b:List Byte)(ha:a.length=16)(hb:b.length=16)(w0:World):Gives Tryz.prog 108 #[A8 a,A8 b] w0 (A8 (bothL a b)):=by
 unfold Gives
 have hm:=Own.start w0
 have ha1:=Nat.le_of_eq ha
 have ha2:=Nat.le_of_eq ha.symm
 have hb1:=Nat.le_of_eq hb
 have hb2:=Nat.le_of_eq hb.symm
 have Ha:=hid ha
 clear ha hb
 go_enter Tryz.func108,Tryz.ntmps108
 go_wp2_with (first|((first|((with_reducible show qAl);refine zG hm ?_)|((with_reducible show qBx);refine zH hm ?_));clear hm;(first|(have hx_:=g1;clear hx_;(first|(have hx_:=g2;clear hx_;(first|(have hx_:=g3;clear hx_;intro gx_)|intro g3))|intro g2))|intro g1);intro w hm))
 rw [part_start (f:=fun i=>nth a i^^^nth b i) Ha.out]at hm
 go_loopw [6] (fun i wr=>∃k:Nat,k≤16∧i= .int .i64 k∧Own w0 wr [⟨g3,132,(zer 16).map v8⟩,⟨g2,132,b.map v8⟩,⟨g1,132,(part 16 k (fun i=>nth a i^^^nth b i) (nth a)).map v8⟩]) (fun i _=>16-(intOf i).toNat)
 case atStart=>exact⟨0,by omega,rfl,hm⟩
 case round =>
   obtain⟨k,hk,rfl,hm⟩:=hrel
   by_cases hlt:k<16
   · have e1:nth (part 16 k (fun i=>nth a i^^^nth b i) (nth a)) k=nth a k:=nth_part_ge hlt (Nat.le_refl _)
     go_wp2_with fail
     refine rgE 8 19 ?_
     simp only [zTa]
     repeat (first
         | (apply walk_is rfl rfl rfl
            · (intro wx hwx;first|((with_reducible show qGl);exact zJ (hm.ext hwx))|(go_simp;(try go_bits);first|exact gives_same|exact gives_skip))
            · (simp only [zPu];rfl))
         | (apply walk_not rfl rfl rfl
            · (simp only [zPu];rfl)))
     intro wz hwz
     simp only [zZi]
     repeat (first|rw [fin_is]|(rw [fin_cons];intro _ _))
     rw [fin_nil]
     try (replace hm:=hm.ext hwz)
     simp only [zPu]
     go_wp2_with (first|((with_reducible show qSt);refine zD hm ?_;clear hm;intro w hm))
     go_roundw
     case rel=>
       rw [part_set' hlt rfl]at hm
       exact⟨k+1,by omega,by go_num,hm⟩
     case measure=>simp [intOf]<;>omega
   · obtain rfl:k=16:=by omega
     rw [part_all]at hm
     go_wp2_with (first|((with_reducible show qLd);refine zB hm ?_)|((with_reducible show qSt);refine zE hm ?_;clear hm;intro w hm))
     refine ret_own hm rfl rfl (by infer_instance) (by repeat (first|exact Has.hd|assumption|apply Has.tl)) (by first|rfl|omega|(simp only [zeros_length,zer_length,tab_length,part_length,setN_length,List.length_map,List.length_cons,List.length_nil,List.length_append,List.length_take,List.length_drop,List.length_replicate,blk_length,putL_length]<;>omega)) rfl ⟨rfl,hm.x⟩
theorem tcmix(gb row:Nat)(x:Byte)(h:row<4):(tcells gb mixT unmixT)[1+row*256+x.toNat]? =some (v32 (brg mixesL row (bxTo x) 4)):=by
 have:=x.isLt
 rw [tcells_mix_at gb mixT unmixT (row*256+x.toNat) _ (by omega) (by rw [mixT_length];omega),mixT_nth row x h]
theorem tcunmix(gb row:Nat)(x:Byte)(h:row<4):(tcells gb mixT unmixT)[1025+row*256+x.toNat]? =some (v32 (brg unmixesL row x 4)):=by
 have:=x.isLt
 rw [tcells_unmix_at gb mixT unmixT (row*256+x.toNat) _ (by rw [mixT_length];omega) (by rw [unmixT_length];omega),unmixT_nth row x h]
def lastF(b:List Byte)(i:Nat):Byte:=bxTo (nth b (shp (i%4) (i/4)))
theorem last_both(b key:List Byte):bothL (tab 16 (lastF b)) key=last b key:=tab_ext fun i hi=>by rw [nth_tab hi];rfl
theorem last_any(g gb:Nat)(b key:List Byte)(hb:b.length=16)(hk:key.length=16)(w0:World)(h1:Row w0 g 88 (tcells gb mixT unmixT))(h2:Row w0 gb 113 (tabs.map v8)):Gives Tryz.prog 91 #[.pointer (some ⟨g,0,none⟩),A8 b,A8 key] w0 (A8 (last b key)):=by
 unfold Gives
 have hm:=Own.start w0
 have hb1:=Nat.le_of_eq hb
 have hb2:=Nat.le_of_eq hb.symm
 have hk1:=Nat.le_of_eq hk
 have hk2:=Nat.le_of_eq hk.symm
 have HK:=hid hk
 have H1:=hid h1
 have H2:=hid h2
 clear hb hk h1 h2
 go_enter Tryz.func91,Tryz.ntmps91
 go_wp2_with (first|((first|((with_reducible show qAl);refine zG hm ?_)|((with_reducible show qBx);refine zH hm ?_));clear hm;(first|(have hx_:=g1;clear hx_;(first|(have hx_:=g2;clear hx_;(first|(have hx_:=g3;clear hx_;(first|(have hx_:=g4;clear hx_;intro gx_)|intro g4))|intro g3))|intro g2))|intro g1);intro w hm))
 go_loopw [13] (fun i wr=>∃col:Nat,col≤4∧i= .int .i64 col∧Own w0 wr [⟨g4,132,(part 16 (4*col) (lastF b) fun _=>0).map v8⟩,⟨g3,132,(zer 16).map v8⟩,⟨g2,132,key.map v8⟩,⟨g1,132,b.map v8⟩]) (fun i _=>4-(intOf i).toNat)
 case atStart=>exact⟨0,by omega,rfl,by rw [←zer_start];exact hm⟩
 case round =>
   obtain⟨col,hcol,rfl,hm⟩:=hrel
   by_cases hlt:col<4
   · have hd : decide ((col:Int)<4)=true:=by simp;omega
     go_wp2_with fail
     go_loopw [16] (fun j wr=>∃row:Nat,row≤4∧j= .int .i64 row∧Own w0 wr [⟨g4,132,(part 16 (4*col+row) (lastF b) fun _=>0).map v8⟩,⟨g3,132,(zer 16).map v8⟩,⟨g2,132,key.map v8⟩,⟨g1,132,b.map v8⟩]) (fun j _=>4-(intOf j).toNat)
     case atStart=>exact⟨0,by omega,rfl,hm⟩
     case round =>
       obtain⟨row,hrow,rfl,hm⟩:=hrel
       by_cases hlr:row<4
       · have hs:=shp_lt row col hlr
         have hs2:(shp row col:Int)<16:=by omega
         have hi2:(row:Int)+4*(col:Int)<16:=by omega
         have hi0:(0:Int)≤(row:Int)+4*(col:Int):=by omega
         have hin:((row:Int)+4*(col:Int)).toNat=row+4*col:=by omega
         have e1:lastF b (4*col+row)=bxTo (nth b (shp row col)):=by rw [lastF,show(4*col+row)%4=row from by omega,show(4*col+row)/4=col from by omega]
         have E1:=hid e1
         have HR:=hid (row_ext H1.out hm.x)
         have HB:=hid (row_ext H2.out hm.x)
         clear e1
         go_wp2_with fail
         refine rgE 15 39 ?_
         simp only [zTa]
         repeat (first
             | (apply walk_is rfl rfl rfl
                · (intro wx hwx;(with_reducible apply gq_row1 ((fun wx hwx=>row_ext HR.out hwx) wx hwx));infer_instance;exact rfl;(exact tcells_ptr _ _ _))
                · (simp only [zPu];rfl))
             | (apply walk_is rfl rfl rfl
                · (intro wx hwx;first|((with_reducible show qGl);exact zJ (hm.ext hwx))|(go_simp;(try go_bits);first|exact gives_same|exact gives_skip|with_reducible exact gives_call (shifted_G row col hlr hlt wx)|with_reducible exact gives_call (to_G gb _ wx (row_ext HB.out hwx))))
                · (simp only [zPu];rfl))
             | (apply walk_not rfl rfl rfl
                · (simp only [zPu];rfl)))
         intro wz hwz
         simp only [zZi]
         repeat (first|rw [fin_is]|(rw [fin_cons];intro _ _))
         rw [fin_nil]
         try (replace hm:=hm.ext hwz)
         simp only [zPu]
         go_wp2_with (first|((with_reducible show qSt);refine zD hm ?_;clear hm;intro w hm))
         go_roundw
         case rel=>
           rw [show row+4*col=4*col+row from by omega,part_set' (by omega) E1.out.symm]at hm
           exact⟨row+1,by omega,by go_num,hm⟩
         case measure=>simp [intOf]<;>omega
       · obtain rfl:row=4:=by omega
         go_wp2_with fail
         go_roundw
         case rel=>exact⟨col+1,by omega,by go_num,by rw [show 4*(col+1)=4*col+4 from by omega];exact hm⟩
         case measure=>simp [intOf]<;>omega
   · obtain rfl:col=4:=by omega
     rw [show 4*4=16 from rfl,part_all]at hm
     go_wp2_with (first|(go_at_call 108;(with_reducible refine(both_any (tab 16 (lastF b)) key tab_length HK.out _).mono ?_);rintro e_ w ⟨rfl,hx_⟩;replace hm:=hm.ext hx_;clear hx_)|((with_reducible show qLd);refine zB hm ?_)|((with_reducible show qSt);refine zE hm ?_;clear hm;intro w hm))
     rw [last_both]at hm
     refine ret_own hm rfl rfl (by infer_instance) (by repeat (first|exact Has.hd|assumption|apply Has.tl)) (by first|rfl|omega|(simp only [zeros_length,zer_length,tab_length,part_length,setN_length,List.length_map,List.length_cons,List.length_nil,List.length_append,List.length_take,List.length_drop,List.length_replicate,blk_length,putL_length]<;>omega)) rfl ⟨rfl,hm.x⟩
theorem sw_shl(x:Byte)(s:Nat)(h:s≤24):((x.setWidth 64)<<<s).setWidth 32=x.setWidth 32<<<s:=by
 apply BitVec.eq_of_getLsbD_eq;intro i hi
 simp [hi,show i<64 by omega]
theorem word_colW(b key:List Byte)(col:Nat)(hk:key.length=16)(hc:col<4):(num key (4*(col:Int)) 4).setWidth 32=colW b key col 0:=by
 have hg:∀k:Nat,k<4→gb key (4*(col:Int)+(k:Int))=nth key (4*col+k):=by
   intro k h
   unfold gb
   rw [if_pos (by omega),show(4*(col:Int)+(k:Int)).toNat=4*col+k from by omega];rfl
 have h0:=hg 0 (by omega)
 have h1:=hg 1 (by omega)
 have h2:=hg 2 (by omega)
 have h3:=hg 3 (by omega)
 simp only [num,h0,h1,h2,h3,colW,BitVec.setWidth_or,Nat.mul_zero,Nat.add_zero]
 rw [sw_shl _ 0 (by omega),sw_shl _ (8*1) (by omega),sw_shl _ (8*2) (by omega),sw_shl _ (8*3) (by omega)]
 simp
theorem word_G(b key:List Byte)(p:Option Addr)(c col:Nat)(hk:key.length=16)(hc:col<4)(w:World)(hr:RdB w p key):Gives Tryz.prog 84 #[.slice p 16 c, .int .i64 (4*(col:Int))] w (v32 (colW b key col 0)):=by
 have h:=word_any key p c (4*(col:Int)) w hr (by omega) (by omega) (by omega)
 rwa [word_colW b key col hk hc,hk]at h
theorem putL_byteW(n:BitVec 32)(f:Nat→Byte)(k:Nat)(h:∀r,r<4→byteW n r=f (k+r)):putL (n.setWidth 64) 4=[f k,f (k+1),f (k+2),f (k+3)]:=by
 have e:putL (n.setWidth 64) 4=[byteW n 0,byteW n 1,byteW n 2,byteW n 3]:=by
   show [((n.setWidth 64)>>>(8*0)).setWidth 8,((n.setWidth 64)>>>(8*1)).setWidth 8,((n.setWidth 64)>>>(8*2)).setWidth 8,((n.setWidth 64)>>>(8*3)).setWidth 8]=_
   rw [put32_byte,put32_byte,put32_byte,put32_byte];rfl
 rw [e,h 0 (by omega),h 1 (by omega),h 2 (by omega),h 3 (by omega)];rfl
theorem over_col(n:BitVec 32)(f:Nat→Byte)(col m:Nat)(hc:col<4)(hm:4≤m)(h:∀r,r<4→byteW n r=f (4*col+r)):over (part 16 (4*col) f fun _=>0) (4*col) ((putL (n.setWidth 64) 4).take m)=part 16 (4*col+4) f fun _=>0:=by
 rw [putL_byteW n f (4*col) h,List.take_of_length_le (by simpa using hm)]
 rcases (show col=0∨col=1∨col=2∨col=3 by omega)with rfl|rfl|rfl|rfl<;>rfl
theorem rndB_col(b key:List Byte)(col:Nat)(r:Nat)(h:r<4):byteW (colW b key col 4) r=rndB b key (4*col+r):=by
 rw [rndB,show(4*col+r)/4=col from by omega,show(4*col+r)%4=r from by omega]
attribute [local simp] putL_length
theorem round_any(g gb:Nat)(b key:List Byte)(hb:b.length=16)(hk:key.length=16)(w0:World)(h1:Row w0 g 88 (tcells gb mixT unmixT)):Gives Tryz.prog 106 #[.pointer (some ⟨g,0,none⟩),A8 b,A8 key] w0 (A8 (rnd b key)):=by
 unfold Gives
 have hm:=Own.start w0
 have hb1:=Nat.le_of_eq hb
 have hb2:=Nat.le_of_eq hb.symm
 have hk1:=Nat.le_of_eq hk
 have hk2:=Nat.le_of_eq hk.symm
 have HK:=hid hk
 have H1:=hid h1
 clear hb hk h1
 go_enter Tryz.func106,Tryz.ntmps106
 go_wp2_with (first|((first|((with_reducible show qAl);refine zG hm ?_)|((with_reducible show qBx);refine zH hm ?_));clear hm;(first|(have hx_:=g1;clear hx_;(first|(have hx_:=g2;clear hx_;(first|(have hx_:=g3;clear hx_;(first|(have hx_:=g4;clear hx_;intro gx_)|intro g4))|intro g3))|intro g2))|intro g1);intro w hm))
 go_loopw [15] (fun i wr=>∃col:Nat,col≤4∧i= .int .i64 col∧Own w0 wr [⟨g4,132,(part 16 (4*col) (rndB b key) fun _=>0).map v8⟩,⟨g3,132,(zer 16).map v8⟩,⟨g2,132,key.map v8⟩,⟨g1,132,b.map v8⟩]) (fun i _=>4-(intOf i).toNat)
 case atStart=>exact⟨0,by omega,rfl,by rw [←zer_start];exact hm⟩
 case round =>
   obtain⟨col,hcol,rfl,hm⟩:=hrel
   by_cases hlt:col<4
   · have hd : decide ((col:Int)<4)=true:=by simp;omega
     go_wp2_with (first|(go_at_call 84;(with_reducible refine(word_G b key _ _ col HK.out hlt _ (hm.rdB (by repeat (first|exact Has.hd|assumption|apply Has.tl)))).mono ?_);rintro e_ w ⟨rfl,hx_⟩;replace hm:=hm.ext hx_;clear hx_))
     go_loopw [9,22] (fun n j wr=>∃row:Nat,row≤4∧j= .int .i64 row∧n=v32 (colW b key col row)∧Own w0 wr [⟨g4,132,(part 16 (4*col) (rndB b key) fun _=>0).map v8⟩,⟨g3,132,(zer 16).map v8⟩,⟨g2,132,key.map v8⟩,⟨g1,132,b.map v8⟩]) (fun _ j _=>4-(intOf j).toNat)
     case atStart=>exact⟨0,by omega,rfl,rfl,hm⟩
     case round =>
       obtain⟨row,hrow,rfl,rfl,hm⟩:=hrel
       by_cases hlr:row<4
       · have hs:=shp_lt row col hlr
         have hs2:(shp row col:Int)<16:=by omega
         have hx8:∀x:Byte,(x.toNat:Int)<256:=fun x=>by have:=x.isLt;omega
         have hx9:=hx8 (nth b (shp row col))
         clear hx8
         have e1:colW b key col (row+1)=colW b key col row^^^brg mixesL row (bxTo (nth b (shp row col))) 4:=rfl
         have E1:=hid e1
         have HR:=hid (row_ext H1.out hm.x)
         clear e1
         go_wp2_with fail
         refine rgE 14 49 ?_
         simp only [zTa]
         repeat (first
             | (apply walk_is rfl rfl rfl
                · (intro wx hwx;(with_reducible apply gq_row1 ((fun wx hwx=>row_ext HR.out hwx) wx hwx));infer_instance;exact rfl;(exact tcmix _ _ _ hlr))
                · (simp only [zPu];rfl))
             | (apply walk_is rfl rfl rfl
                · (intro wx hwx;first|((with_reducible show qGl);exact zJ (hm.ext hwx))|(go_simp;(try go_bits);first|exact gives_same|exact gives_skip|with_reducible exact gives_call (shifted_G row col hlr hlt wx)))
                · (simp only [zPu];rfl))
             | (apply walk_not rfl rfl rfl
                · (simp only [zPu];rfl)))
         intro wz hwz
         simp only [zZi]
         repeat (first|rw [fin_is]|(rw [fin_cons];intro _ _))
         rw [fin_nil]
         try (replace hm:=hm.ext hwz)
         simp only [zPu]
         go_wp2_with fail
         go_roundw
         case rel=>exact⟨row+1,by omega,by go_num,by rw [E1.out],hm⟩
         case measure=>simp [intOf]<;>omega
       · obtain rfl:row=4:=by omega
         go_wp2_with (first|(go_at_call 83;(with_reducible refine(putword_any _ _).mono ?_);rintro e_ w ⟨rfl,hx_⟩;replace hm:=hm.ext hx_;clear hx_)|((with_reducible show qSt);refine zE hm ?_;clear hm;intro w hm)|(((with_reducible show qAl);refine zG hm ?_);clear hm;(first|(have hx_:=g1;clear hx_;(first|(have hx_:=g2;clear hx_;(first|(have hx_:=g3;clear hx_;(first|(have hx_:=g4;clear hx_;intro gx_)|intro g4))|intro g3))|intro g2))|intro g1);intro w hm))
         have hl0:(0:Int)≤4*(col:Int):=by omega
         have hl1:4*(col:Int)≤16:=by omega
         have hl2:(4*(col:Int)).toNat=4*col:=by omega
         have hl3:16≠4*col:=by omega
         have hl4:¬16=4*col:=hl3
         refine rgE 4 49 ?_
         simp only [zTa]
         repeat (first
             | (apply walk_is rfl rfl rfl
                · (intro wx hwx;go_simp;(try go_bits);first|exact gives_same|exact gives_skip)
                · (simp only [zPu];rfl))
             | (apply walk_not rfl rfl rfl
                · (simp only [zPu];rfl)))
         intro wz hwz
         simp only [zZi]
         repeat (first|rw [fin_is]|(rw [fin_cons];intro _ _))
         rw [fin_nil]
         try (replace hm:=hm.ext hwz)
         simp only [zPu]
         refine wpl_cp8 hm rfl rfl rfl rfl rfl (by kernel_rfl) (by repeat (first|exact Swap.hd|assumption|apply Swap.tl)) (hm.rdB (by repeat (first|exact Has.hd|assumption|apply Has.tl))) (putL_length _ _).symm (over_col _ (rndB b key) col _ hlt (by omega) (rndB_col b key col)) (by simp;omega) ?_
         clear hm
         intro w hm
         go_wp2_with fail
         go_roundw
         case rel=>exact⟨col+1,by omega,by go_num,by rw [show 4*(col+1)=4*col+4 from by omega];exact hm.drop⟩
         case measure=>simp [intOf]<;>omega
   · obtain rfl:col=4:=by omega
     rw [show 4*4=16 from rfl,part_all]at hm
     go_wp2_with (first|((with_reducible show qLd);refine zB hm ?_)|((with_reducible show qSt);refine zE hm ?_;clear hm;intro w hm))
     refine ret_own hm rfl rfl (by infer_instance) (by repeat (first|exact Has.hd|assumption|apply Has.tl)) (by first|rfl|omega|(simp only [zeros_length,zer_length,tab_length,part_length,setN_length,List.length_map,List.length_cons,List.length_nil,List.length_append,List.length_take,List.length_drop,List.length_replicate,blk_length,putL_length]<;>omega)) rfl ⟨rfl,hm.x⟩
end Go.Proofs.YtneacgpmjlocjaaGreatDoor
namespace Go.Proofs.YtneacgpmjlocjaaGreatDoor
open Go Go.RowKit
set_option maxRecDepth 100000
def cnt16:List Byte:=[0#8,1#8,2#8,3#8,4#8,5#8,6#8,7#8,8#8,9#8,10#8,11#8,12#8,13#8,14#8,15#8]
attribute [local simp] rnd_length last_length
end Go.Proofs.YtneacgpmjlocjaaGreatDoor
namespace Go.Proofs.YtneacgpmjlocjaaGreatDoor
open Go Go.RowKit
set_option maxRecDepth 100000
theorem trounds_any(g gb:Nat)(b:List Byte)(ks:List (List Byte))(p:Option Addr)(c:Nat)(hb:b.length=16)(w0:World)(hk:RdK w0 p 16 ks)(hc:ks.length≤c)(hcm:ks.length≤70368744177664)(h1:Row w0 g 88 (tcells gb mixT unmixT)):Gives Tryz.prog 89 #[.pointer (some ⟨g,0,none⟩),A8 b, .slice p ks.length c] w0 (A8 (rnds b ks)):=by
 unfold Gives
 have hm:=Own.start w0
 have hb1:=Nat.le_of_eq hb
 have hb2:=Nat.le_of_eq hb.symm
 have H1:=hid h1
 have HK:=hid hk
 have HB:=hid hb
 clear hb h1 hk
 go_enter Tryz.func89,Tryz.ntmps89
 go_wp2_with (first|((first|((with_reducible show qAl);refine zG hm ?_)|((with_reducible show qBx);refine zH hm ?_));clear hm;(first|(have hx_:=g1;clear hx_;(first|(have hx_:=g2;clear hx_;intro gx_)|intro g2))|intro g1);intro w hm))
 go_loopw [14] (fun i wr=>∃k:Nat,k≤ks.length∧i= .int .i64 k∧Own w0 wr [⟨g2,132,(zer 16).map v8⟩,⟨g1,132,(rnds b (ks.take k)).map v8⟩]) (fun i _=>ks.length-(intOf i).toNat)
 case atStart=>exact⟨0,by omega,rfl,hm⟩
 case round=>
   obtain⟨k,hk,rfl,hm⟩:=hrel
   have hB:=rnds_length (ks.take k) b HB.out
   by_cases hlt:k<ks.length
   · obtain⟨a,rfl⟩:=HK.out.addr (by omega) (by omega)
     obtain⟨hK,hKl⟩:=HK.out.at (by omega) k hlt
     have hS:=rnds_take b ks k hlt
     simp only [Option.getD_some]at hK
     generalize rnds b (ks.take k)=B at*
     generalize ks.getD k []=K at*
     have HS:=hid hS
     have HK2:=hid hK
     have CR:=hid fun wx h=>round_any g gb B K hB hKl wx h
     have hl1:(rnd B K).length=16:=rnd_length _ _
     generalize rnd B K=C at*
     clear hK
     go_wp2_with (first|(go_at_call 106;(with_reducible refine(CR.out _ (row_ext H1.out hm.x)).mono ?_);rintro e_ w ⟨rfl,hx_⟩;replace hm:=hm.ext hx_;clear hx_)|((with_reducible apply wq_rdW (HK2.out.ext hm.x));exact rfl;infer_instance;exact rfl;exact hKl)|((with_reducible show qLd);refine zB hm ?_)|((with_reducible show qSt);refine zE hm ?_;clear hm;intro w hm)|(((with_reducible show qAl);refine zG hm ?_);clear hm;(first|(have hx_:=g1;clear hx_;(first|(have hx_:=g2;clear hx_;intro gx_)|intro g2))|intro g1);intro w hm))
     go_roundw
     case rel=>exact⟨k+1,by omega,by go_num,by rw [HS.out];exact hm.drop⟩
     case measure=>simp [intOf]<;>omega
   · obtain rfl:k=ks.length:=by omega
     rw [List.take_length]at hm hB
     go_wp2_with (first|((with_reducible show qLd);refine zB hm ?_)|((with_reducible show qSt);refine zE hm ?_;clear hm;intro w hm))
     refine ret_own hm rfl rfl (by infer_instance) (by repeat (first|exact Has.hd|assumption|apply Has.tl)) (by first|rfl|omega|(simp only [zeros_length,zer_length,tab_length,part_length,setN_length,List.length_map,List.length_cons,List.length_nil,List.length_append,List.length_take,List.length_drop,List.length_replicate,blk_length,putL_length]<;>omega)) rfl ⟨rfl,hm.x⟩
def kcells(gt:Nat)(K:KeyP):List Value:= .pointer (some ⟨gt,0,none⟩)::((K.i++(K.j++K.l)).map v8)
def KeyR(w:World)(g:Nat)(K:KeyP):Prop:=K.Ok∧∃gt gb,Row w g 139 (kcells gt K)∧Row w gt 88 (tcells gb mixT unmixT)
theorem KeyR.ext {w w':World}{g:Nat}{K:KeyP}(h:KeyR w g K)(hx:Ext w w'):KeyR w' g K:=by
 obtain⟨ho,gt,gb,h1,h2⟩:=h;exact⟨ho,gt,gb,row_ext h1 hx,row_ext h2 hx⟩
theorem row_seg {w:World}{g:Nat}{t:TypeId}{cs:List Value}(h:Row w g t cs)(k:Nat)(l:List Byte)(hl:(cs.drop k).take l.length=l.map v8):RdB w (some ⟨g,k,none⟩) l:=
 ⟨fun _=>rfl,fun i hi=>by
   simp only [Option.getD_some]
   have e:(⟨g,k,none⟩:Addr).add i=⟨g,k+i,none⟩:=by rw [Addr.add_mid]
   rw [e,row_cell h]
   have:=congrArg (·[i]?) hl
   simp only [List.getElem?_take,if_pos hi,List.getElem?_drop,List.getElem?_map]at this
   rw [this,List.getElem?_eq_getElem hi,List.getD_eq_getElem?_getD,List.getElem?_eq_getElem hi];rfl⟩
theorem kcells_i(gt:Nat)(K:KeyP)(h:K.Ok):((kcells gt K).drop 1).take K.i.length=K.i.map v8:=by
 simp [kcells,List.take_append_of_le_length]
theorem kcells_j(gt:Nat)(K:KeyP)(h:K.Ok):((kcells gt K).drop 17).take K.j.length=K.j.map v8:=by
 have:=h.hi
 simp only [kcells,show(17:Nat)=16+1 from rfl,dSC,List.map_append]
 rw [List.drop_append_of_le_length (by simp [this]),List.drop_eq_nil_of_le (by simp [this]),List.nil_append,List.take_append_of_le_length (by simp),List.take_of_length_le (by simp)]
theorem kcells_l(gt:Nat)(K:KeyP)(h:K.Ok):((kcells gt K).drop 33).take K.l.length=K.l.map v8:=by
 have h1:=h.hi
 have h2:=h.hj
 simp only [kcells,show(33:Nat)=32+1 from rfl,dSC]
 rw [←List.append_assoc,List.map_append,List.drop_append_of_le_length (by simp [h1,h2]),List.drop_eq_nil_of_le (by simp [h1,h2]),List.nil_append,List.take_of_length_le (by simp)]
theorem KeyR.rdi {w:World}{g:Nat}{K:KeyP}(h:KeyR w g K):RdB w (some ⟨g,1,none⟩) K.i:=by obtain⟨ho,gt,gb,h1,h2⟩:=h;exact row_seg h1 1 _ (kcells_i gt K ho)
theorem KeyR.rdj {w:World}{g:Nat}{K:KeyP}(h:KeyR w g K):RdB w (some ⟨g,17,none⟩) K.j:=by obtain⟨ho,gt,gb,h1,h2⟩:=h;exact row_seg h1 17 _ (kcells_j gt K ho)
theorem KeyR.rdl {w:World}{g:Nat}{K:KeyP}(h:KeyR w g K):RdB w (some ⟨g,33,none⟩) K.l:=by obtain⟨ho,gt,gb,h1,h2⟩:=h;exact row_seg h1 33 _ (kcells_l gt K ho)
theorem part_any(g:Nat)(K:KeyP)(n:Int)(w0:World)(hk:KeyR w0 g K):Gives Tryz.prog 127 #[.pointer (some ⟨g,0,none⟩), .int .i64 n] w0 (A8 (K.at n)):=by
 unfold Gives
 have hm:=Own.start w0
 have HI:=hid hk.rdi
 have HJ:=hid hk.rdj
 have HL:=hid hk.rdl
 have li:=hk.1.hi
 have lj:=hk.1.hj
 have ll:=hk.1.hl
 clear hk
 by_cases h0:n=0
 · subst h0
   rw [show K.at 0=K.i from rfl]
   go_enter Tryz.func127,Tryz.ntmps127
   go_wp2_with (first|((with_reducible apply wq_rdW (HI.out.ext hm.x));exact rfl;infer_instance;exact rfl;exact li)|((with_reducible show qSt);refine zE hm ?_;clear hm;intro w hm)|(((with_reducible show qAl);refine zG hm ?_);clear hm;intro gx_;intro w hm))
   refine rtO hm rfl rfl ⟨rfl,hm.x⟩
 · have e0:(n==0)=false:=by simpa using h0
   by_cases h1:n=1
   · subst h1
     rw [show K.at 1=K.j from rfl]
     go_enter Tryz.func127,Tryz.ntmps127
     go_wp2_with (first|((with_reducible apply wq_rdW (HJ.out.ext hm.x));exact rfl;infer_instance;exact rfl;exact lj)|((with_reducible show qSt);refine zE hm ?_;clear hm;intro w hm)|(((with_reducible show qAl);refine zG hm ?_);clear hm;intro gx_;intro w hm))
     refine rtO hm rfl rfl ⟨rfl,hm.x⟩
   · have e1:(n==1)=false:=by simpa using h1
     by_cases h2:n=2
     · subst h2
       rw [show K.at 2=K.l from rfl]
       go_enter Tryz.func127,Tryz.ntmps127
       go_wp2_with (first|((with_reducible apply wq_rdW (HL.out.ext hm.x));exact rfl;infer_instance;exact rfl;exact ll)|((with_reducible show qSt);refine zE hm ?_;clear hm;intro w hm)|(((with_reducible show qAl);refine zG hm ?_);clear hm;intro gx_;intro w hm))
       refine rtO hm rfl rfl ⟨rfl,hm.x⟩
     · have e2:(n==2)=false:=by simpa using h2
       rw [show K.at n=zer 16 from by rw [KeyP.at,if_neg h0,if_neg h1,if_neg h2]]
       go_enter Tryz.func127,Tryz.ntmps127
       go_wp2_with (first|((with_reducible apply wq_build0 build_z16);exact rfl)|((with_reducible show qSt);refine zE hm ?_;clear hm;intro w hm)|(((with_reducible show qAl);refine zG hm ?_);clear hm;intro gx_;intro w hm))
       refine rtO hm rfl rfl ⟨rfl,hm.x⟩
def plusL(a:List Byte):List (List Byte)→List Byte
 |[]=>a
 |b::ks=>plusL (bothL a b) ks
theorem plusL_length(ks:List (List Byte)):∀a:List Byte,a.length=16→(plusL a ks).length=16:=by
 induction ks with
 |nil=>intro a h;exact h
 |cons b ks ih=>intro a h;exact ih _ (bothL_length _ _)
theorem plusL_append(ks ls:List (List Byte)):∀a:List Byte,plusL a (ks++ls)=plusL (plusL a ks) ls:=by
 induction ks with
 |nil=>intro a;rfl
 |cons b ks ih=>intro a;exact ih _
theorem plusL_take(a:List Byte)(ks:List (List Byte))(k:Nat)(h:k<ks.length):plusL a (ks.take (k+1))=bothL (plusL a (ks.take k)) (ks.getD k []):=by
 rw [List.take_succ_eq_append_getElem h,plusL_append,List.getD_eq_getElem?_getD,List.getElem?_eq_getElem h];rfl
theorem ezplus_any(b:List Byte)(ks:List (List Byte))(p:Option Addr)(c:Nat)(hb:b.length=16)(w0:World)(hk:RdK w0 p 16 ks)(hc:ks.length≤c)(hcm:ks.length≤70368744177664):Gives Tryz.prog 125 #[A8 b, .slice p ks.length c] w0 (A8 (plusL b ks)):=by
 unfold Gives
 have hm:=Own.start w0
 have hb1:=Nat.le_of_eq hb
 have hb2:=Nat.le_of_eq hb.symm
 have HK:=hid hk
 have HB:=hid hb
 clear hb hk
 go_enter Tryz.func125,Tryz.ntmps125
 go_wp2_with (first|((first|((with_reducible show qAl);refine zG hm ?_)|((with_reducible show qBx);refine zH hm ?_));clear hm;(first|(have hx_:=g1;clear hx_;(first|(have hx_:=g2;clear hx_;(first|(have hx_:=g3;clear hx_;intro gx_)|intro g3))|intro g2))|intro g1);intro w hm))
 go_loopw [10] (fun i wr=>∃k:Nat,k≤ks.length∧i= .int .i64 k∧Own w0 wr [⟨g2,132,(zer 16).map v8⟩,⟨g1,132,(plusL b (ks.take k)).map v8⟩]) (fun i _=>ks.length-(intOf i).toNat)
 case atStart=>exact⟨0,by omega,rfl,hm⟩
 case round =>
   obtain⟨k,hk,rfl,hm⟩:=hrel
   have hB:=plusL_length (ks.take k) b HB.out
   by_cases hlt:k<ks.length
   · have hd : decide ((k:Int)<(ks.length:Int))=true:=decide_eq_true (by omega)
     have hd2:(k:Int)<(ks.length:Int):=by omega
     obtain⟨a,rfl⟩:=HK.out.addr (by omega) (by omega)
     obtain⟨hK,hKl⟩:=HK.out.at (by omega) k hlt
     have hS:=plusL_take b ks k hlt
     simp only [Option.getD_some]at hK
     generalize plusL b (ks.take k)=B at*
     generalize ks.getD k []=K at*
     have HS:=hid hS
     have HK2:=hid hK
     have ES:Hid (B=part 16 0 (fun i=>nth B i^^^nth K i) (nth B)):=hid (part_start hB)
     have EE:Hid (part 16 16 (fun i=>nth B i^^^nth K i) (nth B)=bothL B K):=hid part_all
     have hK1:=Nat.le_of_eq hKl
     have hK2':=Nat.le_of_eq hKl.symm
     clear hK hS
     go_wp2_with (first|((with_reducible apply wq_rdW (HK2.out.ext hm.x));exact rfl;infer_instance;exact rfl;exact hKl)|((with_reducible show qSt);refine zE hm ?_;clear hm;intro w hm)|(((with_reducible show qAl);refine zG hm ?_);clear hm;(first|(have hx_:=g1;clear hx_;(first|(have hx_:=g2;clear hx_;(first|(have hx_:=g3;clear hx_;intro gx_)|intro g3))|intro g2))|intro g1);intro w hm))
     rw [ES.out]at hm
     go_loopw [14] (fun i wr=>∃j:Nat,j≤16∧i= .int .i64 j∧Own w0 wr [⟨g3,132,K.map v8⟩,⟨g2,132,(zer 16).map v8⟩,⟨g1,132,(part 16 j (fun i=>nth B i^^^nth K i) (nth B)).map v8⟩]) (fun i _=>16-(intOf i).toNat)
     case atStart=>exact⟨0,by omega,rfl,hm⟩
     case round =>
       obtain⟨j,hj,rfl,hm⟩:=hrel
       by_cases hjl:j<16
       · have hj1:decide ((j:Int)<16)=true:=decide_eq_true (by omega)
         have hj2:(j:Int)<16:=by omega
         have EJ:Hid (setN (part 16 j (fun i=>nth B i^^^nth K i) (nth B)) j (nth (part 16 j (fun i=>nth B i^^^nth K i) (nth B)) j^^^nth K j)=part 16 (j+1) (fun i=>nth B i^^^nth K i) (nth B)):=hid (by
           rw [nth_part_ge hjl (Nat.le_refl _)];exact part_set (f:=fun i=>nth B i^^^nth K i) hjl)
         have lJ:(part 16 j (fun i=>nth B i^^^nth K i) (nth B)).length=16:=part_length
         generalize part 16 j (fun i=>nth B i^^^nth K i) (nth B)=C at*
         go_wp2_with fail
         refine rgE 8 28 ?_
         simp only [zTa]
         repeat (first
             | (apply walk_is rfl rfl rfl
                · (intro wx hwx;first|((with_reducible show qGl);exact zJ (hm.ext hwx))|(go_simp;(try go_bits);first|exact gives_same|exact gives_skip))
                · (simp only [zPu];rfl))
             | (apply walk_not rfl rfl rfl
                · (simp only [zPu];rfl)))
         intro wz hwz
         simp only [zZi]
         repeat (first|rw [fin_is]|(rw [fin_cons];intro _ _))
         rw [fin_nil]
         try (replace hm:=hm.ext hwz)
         simp only [zPu]
         go_wp2_with (first|((with_reducible show qSt);refine zD hm ?_;clear hm;intro w hm))
         go_roundw
         case rel=>
           rw [EJ.out]at hm
           exact⟨j+1,by omega,by go_num,hm⟩
         case measure=>simp [intOf]<;>omega
       · obtain rfl:j=16:=by omega
         have hj1:decide (((16:Nat):Int)<16)=false:=decide_eq_false (by omega)
         rw [EE.out]at hm
         go_wp2_with fail
         go_roundw
         case rel=>exact⟨k+1,by omega,by go_num,by rw [HS.out];exact hm.drop⟩
         case measure=>simp [intOf]<;>omega
   · obtain rfl:k=ks.length:=by omega
     have hd:decide ((ks.length:Int)<(ks.length:Int))=false:=decide_eq_false (by omega)
     rw [List.take_length]at hm hB
     go_wp2_with (first|((with_reducible show qLd);refine zB hm ?_)|((with_reducible show qSt);refine zE hm ?_;clear hm;intro w hm))
     refine rtO hm rfl rfl ⟨rfl,hm.x⟩
theorem off_neg(g:Nat)(j i:Int)(w0:World)(h:j<0∨i<0):Gives Tryz.prog 126 #[.pointer (some ⟨g,0,none⟩), .int .i64 j, .int .i64 i] w0 (A8 (zer 16)):=by
 unfold Gives
 have hm:=Own.start w0
 by_cases h1:j<0
 · have e1:decide (j<0)=true:=decide_eq_true h1
   go_enter Tryz.func126,Tryz.ntmps126
   go_wp2_with (first|((with_reducible apply wq_build0 build_z16);exact rfl)|((with_reducible show qSt);refine zE hm ?_;clear hm;intro w hm)|(((with_reducible show qAl);refine zG hm ?_);clear hm;intro gx_;intro w hm))
   refine rtO hm rfl rfl ⟨rfl,hm.x⟩
 · have e1:decide (j<0)=false:=decide_eq_false h1
   have h2:i<0:=by omega
   have e2:decide (i<0)=true:=decide_eq_true h2
   go_enter Tryz.func126,Tryz.ntmps126
   go_wp2_with (first|((with_reducible apply wq_build0 build_z16);exact rfl)|((with_reducible show qSt);refine zE hm ?_;clear hm;intro w hm)|(((with_reducible show qAl);refine zG hm ?_);clear hm;intro gx_;intro w hm))
   refine rtO hm rfl rfl ⟨rfl,hm.x⟩
theorem off_pos(g:Nat)(K:KeyP)(j i:Nat)(w0:World)(hk:KeyR w0 g K)(hj:j≤9223372036854775807)(hi:i≤9223372036854775807):Gives Tryz.prog 126 #[.pointer (some ⟨g,0,none⟩), .int .i64 j, .int .i64 i] w0 (A8 (offN K j i)):=by
 unfold Gives
 have hm:=Own.start w0
 have HI:=hid hk.rdi
 have HJ:=hid hk.rdj
 have HL:=hid hk.rdl
 have li:=hk.1.hi
 have lj:=hk.1.hj
 have ll:=hk.1.hl
 have e1:decide ((j:Int)<0)=false:=decide_eq_false (by omega)
 have e2:decide ((i:Int)<0)=false:=decide_eq_false (by omega)
 obtain⟨r,hr,hr8⟩:∃r:Nat,i%8=r∧r<8:=⟨_,rfl,Nat.mod_lt _ (by omega)⟩
 obtain⟨u,hu,hu8⟩:∃u:Nat,i/8=u∧u≤1152921504606846975:=⟨_,rfl,by omega⟩
 have a1:(i:Int)%8=(r:Int):=by omega
 have a2:(i:Int).tmod 8=(r:Int):=by rw [Int.tmod_eq_emod_of_nonneg (by omega)];exact a1
 have a3:(i:Int)/8=(u:Int):=by omega
 have a4:(i:Int).tdiv 8=(u:Int):=by rw [Int.tdiv_eq_ediv_of_nonneg (by omega)];exact a3
 have D1:Hid (∀wx,Gives Tryz.prog 128 #[.int .u64 (j:Int),A8 K.j] wx (A8 (mulL (BitVec.ofNat 64 j) K.j))):=hid fun wx=>by rw [natv64 (by omega)];exact ring_mul _ K.j lj wx
 have D3:Hid (∀wx,Gives Tryz.prog 128 #[.int .u64 (r:Int),A8 K.l] wx (A8 (mulL (BitVec.ofNat 64 r) K.l))):=hid fun wx=>by rw [natv64 (by omega)];exact ring_mul _ K.l ll wx
 have l1:=mulL_length (BitVec.ofNat 64 j) K.j
 have l3:=mulL_length (BitVec.ofNat 64 r) K.l
 have l2:=dblN_length K.i li (upN i)
 have eO:offN K j i=plusL (mulL (BitVec.ofNat 64 j) K.j) [dblN K.i (upN i),mulL (BitVec.ofNat 64 r) K.l]:=by rw [offN,hr];rfl
 have D4:Hid (∀(wx:World)(p:Option Addr)(c:Nat),2≤c→RdK wx p 16 [dblN K.i (upN i),mulL (BitVec.ofNat 64 r) K.l]→Gives Tryz.prog 125 #[A8 (mulL (BitVec.ofNat 64 j) K.j), .slice p 2 c] wx (A8 (offN K j i))):=hid fun wx p c hc h=>eO ▸ ezplus_any (mulL (BitVec.ofNat 64 j) K.j) [dblN K.i (upN i),mulL (BitVec.ofNat 64 r) K.l] p c l1 wx h hc (by simp)
 have hk2:Hid (∀k∈[dblN K.i (upN i),mulL (BitVec.ofNat 64 r) K.l],k.length=16):=hid (by simp [l2,l3])
 have lO:=offN_length K j i
 by_cases hr0:r≤1
 · have d2:=fun wx=>ring_raised (upN i) K.i li (by unfold upN;omega) wx
   have eu:((upN i:Nat):Int)=(u:Int)+(r:Int):=by unfold upN;omega
   rw [eu]at d2
   have D2:=hid d2
   have hr1:(r:Int)≤1:=by omega
   clear d2 eu hr0
   clear eO
   generalize mulL (BitVec.ofNat 64 j) K.j=A at*
   generalize mulL (BitVec.ofNat 64 r) K.l=C at*
   generalize dblN K.i (upN i)=B at*
   generalize offN K j i=O at*
   clear hr hu hk
   go_enter Tryz.func126,Tryz.ntmps126
   go_wp2_with (first|(((with_reducible show qAl);refine zG hm ?_);clear hm;intro gx_;intro w hm))
   have hi1:=fun wx (hwx:Ext w wx)=>HI.out.ext (hm.x.trans hwx)
   have hj1:=fun wx (hwx:Ext w wx)=>HJ.out.ext (hm.x.trans hwx)
   have hl1:=fun wx (hwx:Ext w wx)=>HL.out.ext (hm.x.trans hwx)
   refine rgE 23 48 ?_
   simp only [zTa]
   repeat (first
       | (apply walk_is rfl rfl rfl
          · (intro wx hwx;(with_reducible apply gq_rdW ((hi1) wx hwx));infer_instance;exact rfl;(focus (first|rfl|omega|(simp;done)|(simp;omega))))
          · (simp only [zPu];rfl))
       | (apply walk_is rfl rfl rfl
          · (intro wx hwx;(with_reducible apply gq_rdW ((hj1) wx hwx));infer_instance;exact rfl;(focus (first|rfl|omega|(simp;done)|(simp;omega))))
          · (simp only [zPu];rfl))
       | (apply walk_is rfl rfl rfl
          · (intro wx hwx;(with_reducible apply gq_rdW ((hl1) wx hwx));infer_instance;exact rfl;(focus (first|rfl|omega|(simp;done)|(simp;omega))))
          · (simp only [zPu];rfl))
       |(apply walk_some (KeysS ([B,C])) 46 (KeysS.stable _) rfl rfl rfl rfl;(intro wx hwx;exact gq_bs2 (hk2.out) (bs_run2 B C l2 l3 wx) rfl rfl))
       | (apply walk_from (T:=[(46,KeysS [B,C])]) rfl rfl
          · (intro wx hwx;simp only [withS];(rintro x ⟨p,c,rfl,hlc,hk'⟩);refine⟨rfl, ?_⟩;go_simp;exact gives_call (D4.out wx p c hlc hk'))
          · (simp only [zPu];rfl))
       | (apply walk_is rfl rfl rfl
          · (intro wx hwx;go_simp;(try go_bits);first|exact gives_same|exact gives_skip|with_reducible exact gives_call (D1.out wx)|with_reducible exact gives_call (D2.out wx)|with_reducible exact gives_call (D3.out wx))
          · (simp only [zPu];rfl))
       | (apply walk_not rfl rfl rfl
          · (simp only [zPu];rfl)))
   intro wz hwz
   simp only [zZi]
   repeat (first|rw [fin_is]|(rw [fin_cons];intro _ _))
   rw [fin_nil]
   try (replace hm:=hm.ext hwz)
   simp only [zPu]
   clear hi1 hj1 hl1
   go_wp2_with (first|((with_reducible show qSt);refine zE hm ?_;clear hm;intro w hm))
   refine rtO hm rfl rfl ⟨rfl,hm.x⟩
 · have d2:=fun wx=>ring_raised (upN i) K.i li (by unfold upN;omega) wx
   have eu:((upN i:Nat):Int)=(u:Int)+1:=by unfold upN;omega
   rw [eu]at d2
   have D2:=hid d2
   have hr1:¬(r:Int)≤1:=by omega
   clear d2 eu hr0
   clear eO
   generalize mulL (BitVec.ofNat 64 j) K.j=A at*
   generalize mulL (BitVec.ofNat 64 r) K.l=C at*
   generalize dblN K.i (upN i)=B at*
   generalize offN K j i=O at*
   clear hr hu hk
   go_enter Tryz.func126,Tryz.ntmps126
   go_wp2_with (first|(((with_reducible show qAl);refine zG hm ?_);clear hm;intro gx_;intro w hm))
   have hi1:=fun wx (hwx:Ext w wx)=>HI.out.ext (hm.x.trans hwx)
   have hj1:=fun wx (hwx:Ext w wx)=>HJ.out.ext (hm.x.trans hwx)
   have hl1:=fun wx (hwx:Ext w wx)=>HL.out.ext (hm.x.trans hwx)
   refine rgE 23 48 ?_
   simp only [zTa]
   repeat (first
       | (apply walk_is rfl rfl rfl
          · (intro wx hwx;(with_reducible apply gq_rdW ((hi1) wx hwx));infer_instance;exact rfl;(focus (first|rfl|omega|(simp;done)|(simp;omega))))
          · (simp only [zPu];rfl))
       | (apply walk_is rfl rfl rfl
          · (intro wx hwx;(with_reducible apply gq_rdW ((hj1) wx hwx));infer_instance;exact rfl;(focus (first|rfl|omega|(simp;done)|(simp;omega))))
          · (simp only [zPu];rfl))
       | (apply walk_is rfl rfl rfl
          · (intro wx hwx;(with_reducible apply gq_rdW ((hl1) wx hwx));infer_instance;exact rfl;(focus (first|rfl|omega|(simp;done)|(simp;omega))))
          · (simp only [zPu];rfl))
       |(apply walk_some (KeysS ([B,C])) 46 (KeysS.stable _) rfl rfl rfl rfl;(intro wx hwx;exact gq_bs2 (hk2.out) (bs_run2 B C l2 l3 wx) rfl rfl))
       | (apply walk_from (T:=[(46,KeysS [B,C])]) rfl rfl
          · (intro wx hwx;simp only [withS];(rintro x ⟨p,c,rfl,hlc,hk'⟩);refine⟨rfl, ?_⟩;go_simp;exact gives_call (D4.out wx p c hlc hk'))
          · (simp only [zPu];rfl))
       | (apply walk_is rfl rfl rfl
          · (intro wx hwx;go_simp;(try go_bits);first|exact gives_same|exact gives_skip|with_reducible exact gives_call (D1.out wx)|with_reducible exact gives_call (D2.out wx)|with_reducible exact gives_call (D3.out wx))
          · (simp only [zPu];rfl))
       | (apply walk_not rfl rfl rfl
          · (simp only [zPu];rfl)))
   intro wz hwz
   simp only [zZi]
   repeat (first|rw [fin_is]|(rw [fin_cons];intro _ _))
   rw [fin_nil]
   try (replace hm:=hm.ext hwz)
   simp only [zPu]
   clear hi1 hj1 hl1
   go_wp2_with (first|((with_reducible show qSt);refine zE hm ?_;clear hm;intro w hm))
   refine rtO hm rfl rfl ⟨rfl,hm.x⟩
def boxTab:List Byte:=tab 256 fun a=>sbox (BitVec.ofNat 8 a)
end Go.Proofs.YtneacgpmjlocjaaGreatDoor
