/-
  Texts of the program, walked, and plain ones. Conditions: those written in each theorem.
-/
import Derived.Test.YtneacgpmjlocjaaGreatDoorZTopText0
import Derived.Test.YtneacgpmjlocjaaGreatDoorZTopText3
import Derived.Test.YtneacgpmjlocjaaGreatDoorZTopText4
import Derived.Test.YtneacgpmjlocjaaGreatDoorZTopText2
set_option linter.unusedSimpArgs false
set_option linter.unusedVariables false
set_option maxHeartbeats 16000000
open Go.Lib (hid)
namespace Go.Proofs.YtneacgpmjlocjaaGreatDoor
open Go Go.RowKit
set_option maxRecDepth 100000
attribute [go_sem] putL_length
theorem rtO {P:Program}{w0 w:World}{L:List Blk}{T t:TypeId}{g:Nat}{cs:List Value}{a:Act}{fn:Func}{R:Ending→World→Prop}{p:Tmp}{n:Nat}(hm:Own w0 w L)(h:fn.results= #[.cell p T])(hp:a.tmps.getD p undef= .pointer (some ⟨g,0,none⟩))(hR:R (.returned (.agg cs.toArray)) w)(hT:Many P T n:=by infer_instance)(hh:Has L ⟨g,t,cs⟩:=by repeat (first|exact Has.hd|assumption|apply Has.tl|apply Has.app))(hn:cs.length=n:=by first|rfl|omega|(simp only [zeros_length,zer_length,tab_length,part_length,setN_length,List.length_map,List.length_cons,List.length_nil,List.length_append,List.length_take,List.length_drop,List.length_replicate,blk_length,putL_length]<;>omega))(hf:a.defers=[]:=by rfl):bodyPost P fn R .ret a w:=ret_own hm h hp hT hh hn hf hR
theorem over_low(lo:List Byte)(h:lo.length=8):over (List.replicate 16 0) 0 (lo.take 16)=lo++List.replicate 8 0:=by
 rw [List.take_of_length_le (by omega)]
 simp [over,h]
theorem over_high(lo hi:List Byte)(h:lo.length=8)(h2:hi.length=8):over (lo++List.replicate 8 0) 8 (hi.take 8)=lo++hi:=by
 rw [List.take_of_length_le (by omega)]
 simp [over,h,h2,List.drop_append]
theorem bytes_any(lo hi:BitVec 64)(w:World):
   Gives Tryz.prog 186 #[WV lo hi] w (A8 (putL lo 8++putL hi 8)):=by
 unfold Gives
 obtain⟨W,hW⟩:∃W,W=((w.alloc (.cells #[v64 lo,v64 hi] 191)).alloc (.cells #[Value.int IntKind.u8 0,Value.int IntKind.u8 0,Value.int IntKind.u8 0,Value.int IntKind.u8 0,Value.int IntKind.u8 0,Value.int IntKind.u8 0,Value.int IntKind.u8 0,Value.int IntKind.u8 0,Value.int IntKind.u8 0,Value.int IntKind.u8 0,Value.int IntKind.u8 0,Value.int IntKind.u8 0,Value.int IntKind.u8 0,Value.int IntKind.u8 0,Value.int IntKind.u8 0,Value.int IntKind.u8 0] 132)).alloc (.cells #[Value.int IntKind.u8 0,Value.int IntKind.u8 0,Value.int IntKind.u8 0,Value.int IntKind.u8 0,Value.int IntKind.u8 0,Value.int IntKind.u8 0,Value.int IntKind.u8 0,Value.int IntKind.u8 0,Value.int IntKind.u8 0,Value.int IntKind.u8 0,Value.int IntKind.u8 0,Value.int IntKind.u8 0,Value.int IntKind.u8 0,Value.int IntKind.u8 0,Value.int IntKind.u8 0,Value.int IntKind.u8 0] 132):=⟨_,rfl⟩
 have hE:Ext w W:=by rw [hW];exact(((Ext.refl w).alloc _).alloc _).alloc _
 have hsz:W.heap.size=w.heap.size+3:=by rw [hW];simp
 have hA:Row W w.heap.size 191 [v64 lo,v64 hi]:=by rw [hW];exact row_alloc (row_alloc (row_new _ _ _) _) _
 have hR:Row W (w.heap.size+1) 132 ((List.replicate 16 (0:Byte)).map v8):=by rw [hW];exact row_alloc (heap_alloc2_new _ _ _) _
 have hO:Row W (w.heap.size+2) 132 ((List.replicate 16 (0:Byte)).map v8):=by
   rw [hW]
   have:=row_new ((w.alloc (.cells #[v64 lo,v64 hi] 191)).alloc (.cells #[Value.int IntKind.u8 0,Value.int IntKind.u8 0,Value.int IntKind.u8 0,Value.int IntKind.u8 0,Value.int IntKind.u8 0,Value.int IntKind.u8 0,Value.int IntKind.u8 0,Value.int IntKind.u8 0,Value.int IntKind.u8 0,Value.int IntKind.u8 0,Value.int IntKind.u8 0,Value.int IntKind.u8 0,Value.int IntKind.u8 0,Value.int IntKind.u8 0,Value.int IntKind.u8 0,Value.int IntKind.u8 0] 132)) 132 ((List.replicate 16 (0:Byte)).map v8)
   rwa [show((w.alloc (.cells #[v64 lo,v64 hi] 191)).alloc (.cells #[Value.int IntKind.u8 0,Value.int IntKind.u8 0,Value.int IntKind.u8 0,Value.int IntKind.u8 0,Value.int IntKind.u8 0,Value.int IntKind.u8 0,Value.int IntKind.u8 0,Value.int IntKind.u8 0,Value.int IntKind.u8 0,Value.int IntKind.u8 0,Value.int IntKind.u8 0,Value.int IntKind.u8 0,Value.int IntKind.u8 0,Value.int IntKind.u8 0,Value.int IntKind.u8 0,Value.int IntKind.u8 0] 132)).heap.size=w.heap.size+2 from by simp]at this
 have HW:=hid hW
 have Hsz:=hid hsz
 clear hW hsz
 have cA:=fun wx (hwx:Ext W wx)=>row_cell (row_ext hA hwx) 0
 have cB:=fun wx (hwx:Ext W wx)=>row_cell (row_ext hA hwx) 1
 simp only [List.getElem?_cons_zero,List.getElem?_cons_succ]at cA cB
 have hB:W.heap.size≤W.heap.size:=Nat.le_refl _
 go_enter Tryz.func186,Tryz.ntmps186
 go_wp2
 rw [←HW.out]
 refine region_new 8 (fun w'=>Ext W w') 19 (by kernel_rfl) (by kernel_rfl) rfl (fun _ _ h k=>h.trans k) (drew_ext _) ?_
 simp only [tSC,tZe,dSC,dZe,mCo,mNi]
 repeat (first
     | (apply walk_some (NewS (W.heap.size) 40 ((List.replicate 8 (0:Byte)).map v8)) 4 (NewS.stable _ _ _) rfl rfl rfl rfl
        · (intro wx hwx;go_simp;exact gives_new (cs:=(List.replicate 8 (0:Byte)).map v8) hwx.size))
     | (apply walk_some (NewS (W.heap.size) 40 ((List.replicate 8 (0:Byte)).map v8)) 5 (NewS.stable _ _ _) rfl rfl rfl rfl
        · (intro wx hwx;go_simp;exact gives_new (cs:=(List.replicate 8 (0:Byte)).map v8) hwx.size))
     | (apply walk_is rfl rfl rfl
        · (intro wx hwx;go_simp;(try go_bits);first|exact gives_same|exact gives_skip|exact gives_call (putlong_any _ wx))
        · (simp only [Act.put,sIB,sCS,sCZ];rfl))
     | (apply walk_not rfl rfl rfl
        · (simp only [Act.put,sIB,sCS,sCZ];rfl)))
 intro wz hwz
 simp only [zCC,zNR]
 repeat rw [fin_is]
 rw [fin_cons];intro x4 hx4
 repeat rw [fin_is]
 rw [fin_cons];intro x5 hx5
 repeat rw [fin_is]
 rw [fin_nil];intro hap
 simp only [Act.put,sIB,sCS,sCZ]at hap⊢
 obtain⟨g4,rfl,hg4,hr4⟩:=hx4
 obtain⟨g5,rfl,hg5,hr5⟩:=hx5
 have hne:=apart_of hap (d:=4) (e:=5) (by decide) (by decide) (by decide) rfl rfl
 clear hap
 have hs3:=Hsz.out
 go_wp2_with (with_reducible show wpList _ _ _ _ _ _;first|(refine wpl_store_row (cs:=(putL lo 8).map v8) rfl rfl rfl rfl hr4 (by simp [putL_length]) (by simp only [List.length_map,putL_length];kernel_rfl) (one_v8 _) ?_)|(refine wpl_store_row (cs:=(putL hi 8).map v8) rfl rfl rfl rfl (row_setRow_other hr5 _ (Ne.symm hne)) (by simp [putL_length]) (by simp only [List.length_map,putL_length];kernel_rfl) (one_v8 _) ?_))
 have h4:=row_setRow_other (row_setRow hr4 ((putL lo 8).map v8)) ((putL hi 8).map v8).toArray hne
 have h5:=row_setRow (row_setRow_other hr5 ((putL lo 8).map v8).toArray (Ne.symm hne)) ((putL hi 8).map v8)
 have hO1:=row_setRow_other (row_setRow_other (row_ext hO hwz) ((putL lo 8).map v8).toArray (show w.heap.size+2≠g4 by omega)) ((putL hi 8).map v8).toArray (show w.heap.size+2≠g5 by omega)
 have hR1:=row_setRow_other (row_setRow_other (row_ext hR hwz) ((putL lo 8).map v8).toArray (show w.heap.size+1≠g4 by omega)) ((putL hi 8).map v8).toArray (show w.heap.size+1≠g5 by omega)
 have hE1:=ext_setRow (ext_setRow (hE.trans hwz) g4 ((putL lo 8).map v8).toArray (by omega)) g5 ((putL hi 8).map v8).toArray (by omega)
 generalize (wz.setRow g4 ((putL lo 8).map v8).toArray).setRow g5 ((putL hi 8).map v8).toArray=W1 at*
 clear hr4 hr5 hR hO hA cA cB hs3
 refine rgE 2 19 ?_
 simp only [tSC,tZe,dSC,dZe,mCo,mNi]
 repeat (first
     | (apply walk_is rfl rfl rfl
        · (intro wx hwx;go_simp;(try go_bits);first|exact gives_same|exact gives_skip)
        · (simp only [Act.put,sIB,sCS,sCZ];rfl))
     | (apply walk_not rfl rfl rfl
        · (simp only [Act.put,sIB,sCS,sCZ];rfl)))
 intro wz hwz
 simp only [zCC,zNR]
 repeat (first|rw [fin_is]|(rw [fin_cons];intro _ _))
 rw [fin_nil]
 try (replace hm:=hm.ext hwz)
 simp only [Act.put,sIB,sCS,sCZ]
 refine wpl_copy (over_low (putL lo 8) (putL_length lo 8)) rfl rfl rfl rfl (putL_length lo 8).symm rfl (by kernel_rfl) (row_ext hO1 hwz) (by simp) (RdB.of_row (row_ext h4 hwz)) ?_
 have hO2:=row_setRow (row_ext hO1 hwz) ((putL lo 8++List.replicate 8 0).map v8)
 have hR2:=row_setRow_other (row_ext hR1 hwz) ((putL lo 8++List.replicate 8 0).map v8).toArray (show w.heap.size+1≠w.heap.size+2 by omega)
 have hs3:=Hsz.out
 have h52:=row_setRow_other (row_ext h5 hwz) ((putL lo 8++List.replicate 8 0).map v8).toArray (show g5≠w.heap.size+2 by omega)
 have hE2:=ext_setRow (hE1.trans hwz) (w.heap.size+2) ((putL lo 8++List.replicate 8 0).map v8).toArray (by omega)
 generalize wz.setRow (w.heap.size+2) ((putL lo 8++List.replicate 8 0).map v8).toArray=W2 at*
 clear h4 h5 hO1 hR1 hE1 hs3
 go_wp2
 refine rgE 2 19 ?_
 simp only [tSC,tZe,dSC,dZe,mCo,mNi]
 repeat (first
     | (apply walk_is rfl rfl rfl
        · (intro wx hwx;go_simp;(try go_bits);first|exact gives_same|exact gives_skip)
        · (simp only [Act.put,sIB,sCS,sCZ];rfl))
     | (apply walk_not rfl rfl rfl
        · (simp only [Act.put,sIB,sCS,sCZ];rfl)))
 intro wz hwz
 simp only [zCC,zNR]
 repeat (first|rw [fin_is]|(rw [fin_cons];intro _ _))
 rw [fin_nil]
 try (replace hm:=hm.ext hwz)
 simp only [Act.put,sIB,sCS,sCZ]
 refine wpl_copy (over_high (putL lo 8) (putL hi 8) (putL_length lo 8) (putL_length hi 8)) rfl rfl rfl rfl (putL_length hi 8).symm rfl (by kernel_rfl) (row_ext hO2 hwz) (by simp [putL_length]) (RdB.of_row (row_ext h52 hwz)) ?_
 have hO3:=row_setRow (row_ext hO2 hwz) ((putL lo 8++putL hi 8).map v8)
 have hR3:=row_setRow_other (row_ext hR2 hwz) ((putL lo 8++putL hi 8).map v8).toArray (show w.heap.size+1≠w.heap.size+2 by omega)
 have hE3:=ext_setRow (hE2.trans hwz) (w.heap.size+2) ((putL lo 8++putL hi 8).map v8).toArray (by omega)
 have hl16:(putL lo 8++putL hi 8).length=16:=by simp [putL_length]
 have Hl:=hid hl16
 clear hl16
 generalize hrr:putL lo 8++putL hi 8=r at*
 have Hrr:=hid hrr
 clear hrr
 generalize wz.setRow (w.heap.size+2) (r.map v8).toArray=W3 at*
 go_wp2_with (with_reducible show wpList _ _ _ _ _ _;first|(refine wpl_load_row rfl rfl rfl hO3 rfl rfl (by simp only [List.length_map,Hl.out];kernel_rfl) ?_)|(refine wpl_store_row (cs:=r.map v8) rfl rfl rfl rfl hR3 (by simp [Hl.out]) (by simp only [List.length_map,Hl.out];kernel_rfl) (one_v8 _) ?_))
 refine ret_row rfl rfl (row_setRow hR3 _) rfl rfl (by simp only [List.length_map,Hl.out];kernel_rfl) rfl ⟨by rw [Hrr.out], ?_⟩
 exact ext_setRow hE3 _ _ (by omega)
/-! ### The reference's bytes of a number -/
@[local go_sem] theorem conv_64_8' (x : BitVec 64) (w : World) : (convert 25 5 (v64 x)).run Tryz.prog w = .ok (v8 (x.setWidth 8)) w := conv64_8 x _ _ _ w rfl rfl
theorem putlong_any'(n:BitVec 64)(w:World):Gives Tryz.prog 11 #[v64 n] w (A8 (putL n 8)):=by
 have:=putlong_any n w;rwa [BitVec.setWidth_eq]at this
def carryB(x y c:BitVec 64):BitVec 64:=BitVec.ofNat 64 ((x.toNat+y.toNat+c.toNat)/2^64)
def borrowB(x y c:BitVec 64):BitVec 64:=if x.toNat<y.toNat+c.toNat then 1 else 0
theorem carry_le(x y c:BitVec 64)(h:c.toNat≤1):(carryB x y c).toNat≤1:=by
 have:=x.isLt;have:=y.isLt
 simp only [carryB,BitVec.toNat_ofNat];omega
theorem borrow_le(x y c:BitVec 64):(borrowB x y c).toNat≤1:=by
 unfold borrowB;split<;>simp
theorem add64_run(x y c:BitVec 64)(hc:c.toNat≤1)(w:World):(callFunc 145 #[v64 x,v64 y,v64 c]).run Tryz.prog w= .ok (.value (.tuple #[v64 (x+y+c),v64 (carryB x y c)])) w:=by
 have h:=run_callFunc_extern (P:=Tryz.prog) (f:=145) (fn:=Tryz.f145) (e:=add64Entry) (by kernel_rfl) (by kernel_rfl) (by kernel_rfl) (by kernel_rfl) (by rfl) #[v64 x,v64 y,v64 c] w
 rw [h]
 unfold v64
 have hx:=x.isLt;have hy:=y.isLt
 have e1:((x.toNat:Int)+y.toNat+c.toNat)%18446744073709551616=((x+y+c).toNat:Int):=by simp only [BitVec.toNat_add];omega
 have e2:((x.toNat:Int)+y.toNat+c.toNat)/18446744073709551616=((carryB x y c).toNat:Int):=by
   simp only [carryB,BitVec.toNat_ofNat]
   rw [Nat.mod_eq_of_lt (by omega)];omega
 rw [run_add64 _ _ _ (by omega) (by omega) (by omega) (by omega),e1,e2]
 rfl
def sub64Entry:Array Value→Sem Value:=fun args=>do
 let (x, y, b) ← Extern.MathBitsCarry.three "Sub64" args
 pure (Extern.MathBitsCarry.pair ((x+Extern.MathBitsCarry.m64-y-b)%Extern.MathBitsCarry.m64) (if x<y+b then 1 else 0))
theorem sub64_run(x y c:BitVec 64)(hc:c.toNat≤1)(w:World):(callFunc 189 #[v64 x,v64 y,v64 c]).run Tryz.prog w= .ok (.value (.tuple #[v64 (x-y-c),v64 (borrowB x y c)])) w:=by
 have h:=run_callFunc_extern (P:=Tryz.prog) (f:=189) (fn:=Tryz.f189) (e:=sub64Entry) (by kernel_rfl) (by kernel_rfl) (by kernel_rfl) (by kernel_rfl) (by rfl) #[v64 x,v64 y,v64 c] w
 rw [h]
 unfold v64
 have hx:=x.isLt;have hy:=y.isLt
 have key:∀k:Nat,k≤1→(sub64Entry #[.int .u64 x.toNat, .int .u64 y.toNat, .int .u64 (k:Int)]).run Tryz.prog w=
     .ok (Extern.MathBitsCarry.pair ((x.toNat+Extern.MathBitsCarry.m64-y.toNat-k)%Extern.MathBitsCarry.m64) (if x.toNat<y.toNat+k then 1 else 0)) w:=by
   intro k hk
   have:k=0∨k=1:=by omega
   rcases this with rfl|rfl<;>rfl
 rw [key _ hc]
 simp only [Extern.MathBitsCarry.pair,Extern.MathBitsCarry.m64,Result.andThen_ok]
 have e1:(x.toNat+2^64-y.toNat-c.toNat)%2^64=(x-y-c).toNat:=by simp only [BitVec.toNat_sub];omega
 have e2:(if x.toNat<y.toNat+c.toNat then 1 else 0)=(borrowB x y c).toNat:=by unfold borrowB;split<;>rfl
 rw [e1,e2]
 rfl
theorem v64_0:Value.int .u64 0=v64 0#64:=rfl
@[local go_sem] theorem add64_run0 (x y : BitVec 64) (w : World) : (callFunc 145 #[v64 x, v64 y, .int .u64 0]).run Tryz.prog w = .ok (.value (.tuple #[v64 (x + y), v64 (carryB x y 0#64)])) w := by
 have:=add64_run x y 0 (by decide) w;simpa [v64_0]using this
@[local go_sem] theorem add64_run1 (x y a b : BitVec 64) (w : World) : (callFunc 145 #[v64 x, v64 y, v64 (carryB a b 0#64)]).run Tryz.prog w = .ok (.value (.tuple #[v64 (x + y + carryB a b 0#64), v64 (carryB x y (carryB a b 0#64))])) w :=
 add64_run x y _ (carry_le a b 0 (by decide)) w
@[local go_sem] theorem sub64_run0 (x y : BitVec 64) (w : World) : (callFunc 189 #[v64 x, v64 y, .int .u64 0]).run Tryz.prog w = .ok (.value (.tuple #[v64 (x - y), v64 (borrowB x y 0#64)])) w := by
 have:=sub64_run x y 0 (by decide) w;simpa [v64_0]using this
@[local go_sem] theorem sub64_run1 (x y a b : BitVec 64) (w : World) : (callFunc 189 #[v64 x, v64 y, v64 (borrowB a b 0#64)]).run Tryz.prog w = .ok (.value (.tuple #[v64 (x - y - borrowB a b 0#64), v64 (borrowB x y (borrowB a b 0#64))])) w :=
 sub64_run x y _ (borrow_le a b 0) w
@[local go_sem] theorem build_wide' (a b : BitVec 64) (w : World) : (Instr.build 191 #[(0, v64 a), (1, v64 b)]).run Tryz.prog w = .ok (WV a b) w := by kernel_rfl
theorem oplus_any(a b c d:BitVec 64)(w0:World):
   Gives Tryz.prog 132 #[WV a b,WV c d] w0 (WV (a+c) (b+d+carryB a c 0#64)):=by
 unfold Gives
 have hm:=Own.start w0
 go_enter Tryz.func132,Tryz.ntmps132
 go_wp2_with (first|((with_reducible show qLd);first|(refine zC hm ?_))|((((with_reducible show qSt);first|(refine zE hm ?_)));clear hm;intro w hm)|((first|((with_reducible show qAl);first|(refine zG hm ?_))|((with_reducible show qBx);first|(refine zH hm ?_)));clear hm;intro gx_;intro w hm))
 refine rtO hm rfl rfl ⟨rfl,hm.x⟩
theorem ominus_any(a b c d:BitVec 64)(w0:World):
   Gives Tryz.prog 182 #[WV a b,WV c d] w0 (WV (a-c) (b-d-borrowB a c 0#64)):=by
 unfold Gives
 have hm:=Own.start w0
 go_enter Tryz.func182,Tryz.ntmps182
 go_wp2_with (first|((with_reducible show qLd);first|(refine zC hm ?_))|((((with_reducible show qSt);first|(refine zE hm ?_)));clear hm;intro w hm)|((first|((with_reducible show qAl);first|(refine zG hm ?_))|((with_reducible show qBx);first|(refine zH hm ?_)));clear hm;intro gx_;intro w hm))
 refine rtO hm rfl rfl ⟨rfl,hm.x⟩
def carN(a b:List Byte):Nat→Nat
 |0=>0
 |k+1=>((nth a k).toNat+(nth b k).toNat+carN a b k)/256
def plusB(a b:List Byte)(k:Nat):Byte:=BitVec.ofNat 8 ((nth a k).toNat+(nth b k).toNat+carN a b k)
def lessN(a b:List Byte):Nat→Nat
 |0=>0
 |k+1=>1-(256+(nth a k).toNat-(nth b k).toNat-lessN a b k)/256
def minusB(a b:List Byte)(k:Nat):Byte:=BitVec.ofNat 8 (256+(nth a k).toNat-(nth b k).toNat-lessN a b k)
def padN(l:List Byte)(j:Nat):List Byte:=l++List.replicate j 0
theorem room_is(n:Nat)(s:Int)(hs:0<s):((n+roomN n s:Nat):Int)%s=0:=by
 obtain⟨k,rfl⟩:=Int.eq_ofNat_of_zero_le (show 0≤s by omega)
 have hk:0<k:=by omega
 unfold roomN
 rw [if_neg (by omega),Int.toNat_natCast,←Int.natCast_emod]
 have hlt:n%k<k:=Nat.mod_lt _ hk
 have:(n+(k-n%k)%k)%k=0:=by
   by_cases h:n%k=0
   · rw [h,Nat.sub_zero,Nat.mod_self,Nat.add_zero,h]
   · rw [Nat.mod_eq_of_lt (show k-n%k<k by omega)]
     have e:n+(k-n%k)=k*(n/k)+k:=by have:=Nat.div_add_mod n k;omega
     rw [e,Nat.mul_add_mod,Nat.mod_self]
 rw [this];rfl
abbrev RowsV(a b:List Byte)(p q:Option Addr)(c d:Nat)(m:Byte)(s:Int):Value:= .agg #[.slice p a.length c, .slice q b.length d,v8 m, .int .i64 s]
def nbk(n:Nat):Nat:=(n-1)/128
theorem nbk_le(n:Nat):128*nbk n≤n:=by unfold nbk;omega
theorem nbk_rest(n:Nat):n-128*nbk n≤128:=by unfold nbk;omega
theorem nbk_lt(n k:Nat)(h:k<nbk n):128<n-128*k:=by unfold nbk at h;omega
theorem nbk_ge(n k:Nat)(h:nbk n≤k):n-128*k≤128:=by unfold nbk at h;omega
theorem nbk_mono {n m:Nat}(h:n≤m):nbk n≤nbk m:=by unfold nbk;omega
def bkAt(l:List Byte)(k:Nat):List Byte:=(l.drop (128*k)).take 128
def chF(h:List (BitVec 64))(l:List Byte):Nat→List (BitVec 64)
 |0=>h
 |k+1=>compL (chF h l k) (mL (bkAt l k)) (BitVec.ofNat 64 (128*(k+1))) 0#64 false
theorem chF_length(h:List (BitVec 64))(l:List Byte)(hh:h.length=8)(k:Nat):(chF h l k).length=8:=by
 cases k with
 |zero=>exact hh
 |succ k=>exact compL_length _ _ _ _ _
theorem bkAt_append(l m:List Byte)(k:Nat)(h:128*(k+1)≤l.length):bkAt (l++m) k=bkAt l k:=by
 unfold bkAt
 rw [List.drop_append_of_le_length (by omega),List.take_append_of_le_length (by simp;omega)]
theorem chF_append(h:List (BitVec 64))(l m:List Byte):∀k,128*k≤l.length→chF h (l++m) k=chF h l k:=by
 intro k
 induction k with
 |zero=>intro _;rfl
 |succ k ih=>intro hk;rw [chF,chF,ih (by omega),bkAt_append l m k hk]
def finL(h:List (BitVec 64))(l:List Byte):List (BitVec 64):=compL (chF h l (nbk l.length)) (mL (l.drop (128*nbk l.length))) (BitVec.ofNat 64 l.length) 0#64 true
theorem finL_length(h:List (BitVec 64))(l:List Byte):(finL h l).length=8:=compL_length _ _ _ _ _
def outL(h:List (BitVec 64)):List Byte:=(h.map fun n=>putL n 8).flatten
theorem flat8:∀(h:List (BitVec 64)),((h.map fun n=>putL n 8).flatten).length=8*h.length
 |[]=>rfl
 |n::h=>by simp [putL_length,flat8 h];omega
theorem outL_length(h:List (BitVec 64)):(outL h).length=8*h.length:=flat8 h
def startL(size key:Nat):List (BitVec 64):=setN firstL 0 (nth firstL 0^^^(((0x01010000#64)^^^(BitVec.ofNat 64 key<<<8))^^^BitVec.ofNat 64 size))
theorem startL_length(size key:Nat):(startL size key).length=8:=by rw [startL,setN_length];rfl
def keyL(key:List Byte):List Byte:=if key.length=0 then []else pad key 128
def sumL(size:Nat)(key b:List Byte):List Byte:=(outL (finL (startL size key.length) (keyL key++b))).take size
theorem sumL_length(size:Nat)(key b:List Byte)(h:size≤64):(sumL size key b).length=size:=by
 rw [sumL,List.length_take,outL_length,finL_length];omega
theorem carry_none(n m:Nat)(h:n+m<18446744073709551616):carryB (BitVec.ofNat 64 n) (BitVec.ofNat 64 m) 0#64=0#64:=by
 have e:((BitVec.ofNat 64 n).toNat+(BitVec.ofNat 64 m).toNat+(0#64).toNat)/2^64=0:=by
   rw [BitVec.toNat_ofNat,BitVec.toNat_ofNat]
   show(n%18446744073709551616+m%18446744073709551616+0)/18446744073709551616=0
   omega
 rw [carryB,e]
theorem ofNat_plus(n m:Nat):BitVec.ofNat 64 n+BitVec.ofNat 64 m=BitVec.ofNat 64 (n+m):=(BitVec.ofNat_add n m).symm
def hashC(h:List (BitVec 64))(n:Nat)(v:Value)(sz:Int):List Value:=h.map v64++([v64 (BitVec.ofNat 64 n),v64 0#64]++([v]++[.int .i64 sz]))
section
variable {h h':List (BitVec 64)} {n n':Nat} {v v':Value} {sz:Int} (hh:h.length=8)
include hh
theorem hashC_length:(hashC h n v sz).length=12:=by simp [hashC,hh]
theorem hashC_h:((hashC h n v sz).drop 0).take 8=h.map v64:=by
 unfold hashC;rw [dZe,List.take_append_of_le_length (by simp [hh]),List.take_of_length_le (by simp [hh])]
theorem hashC_cnt:((hashC h n v sz).drop 8).take 2=[v64 (BitVec.ofNat 64 n),v64 0#64]:=by
 unfold hashC;rw [List.drop_append,List.drop_eq_nil_of_le (by simp [hh]),List.nil_append,List.length_map,hh];rfl
theorem hashC_rest:(hashC h n v sz)[10]? =some v:=by
 unfold hashC;rw [List.getElem?_append_right (by simp [hh])];simp [hh]
theorem hashC_size:(hashC h n v sz)[11]? =some (.int .i64 sz):=by
 unfold hashC;rw [List.getElem?_append_right (by simp [hh])];simp [hh]
theorem hashC_set_h(k:h'.length=8):(hashC h n v sz).take 0++h'.map v64++(hashC h n v sz).drop (0+8)=hashC h' n v sz:=by
 unfold hashC;rw [tZe,List.nil_append,Nat.zero_add,List.drop_append,List.drop_eq_nil_of_le (by simp [hh]),List.nil_append,List.length_map,hh,Nat.sub_self,dZe]
theorem hashC_set_cnt:(hashC h n v sz).take 8++[v64 (BitVec.ofNat 64 n'),v64 0#64]++(hashC h n v sz).drop (8+2)=hashC h n' v sz:=by
 unfold hashC;rw [List.take_append_of_le_length (by simp [hh]),List.take_of_length_le (by simp [hh]),List.drop_append,List.drop_eq_nil_of_le (by simp [hh]),List.nil_append,List.length_map,hh,List.append_assoc];rfl
theorem hashC_set_rest:(hashC h n v sz).set 10 v'=hashC h n v' sz:=by
 unfold hashC;rw [List.set_append_right _ _ (by simp [hh]),List.length_map,hh];rfl
end
section
variable {P:Program} {ops:Array Oper} {Q:Exit→Act→World→Prop} {rest:List Oper} {dst:Option Tmp} {ty:TypeId} {pos:String} {aft:Array Edge} {gd:Option (Nat×Bool)} {a:Act} {w0 w:World} {L L':List Blk} {T t:TypeId} {x y:Operand} {g k n:Nat} {cs cs' vs:List Value}
theorem wq_stA(hm:Own w0 w L)(hgd:Region.wanted (Oper.mk dst (.store T x y) ty pos aft gd) (yielded ops a.tmps)=true)(hT:Many P T n)(hx:a.eval x= .pointer (some ⟨g,k,none⟩))(hy:a.eval y= .agg vs.toArray)(hs:Swap L ⟨g,t,cs⟩ ⟨g,t,cs'⟩ L')(he:cs.take k++vs++cs.drop (k+n)=cs')(hl:vs.length=n)(hk:k+n≤cs.length)(h1:∀v∈vs,v.oneCell'=true)
   (hr:∀w',Own w0 w' L'→wpList P ops Q rest (a.put dst undef) w'):wpList P ops Q ((Oper.mk dst (.store T x y) ty pos aft gd)::rest) a w:=wpl_stA hm hgd rfl hx hy hs hl hk h1 he hr
end
def blkN(b:List Byte):List Byte:=over (zer 128) 0 (b.take 128)
theorem blkN_length(b:List Byte):(blkN b).length=128:=by rw [blkN,over_length _ _ _ (by simp;omega)];exact zer_length
theorem gb_blkN(b:List Byte)(hb:b.length≤128)(j:Int):gb (blkN b) j=gb b j:=by
 unfold gb blkN over
 split
 · rename_i h0
   generalize j.toNat=i
   rw [tZe,List.nil_append,List.take_of_length_le hb,Nat.zero_add,List.getD_eq_getElem?_getD,List.getD_eq_getElem?_getD]
   by_cases hi:i<b.length
   · rw [List.getElem?_append_left hi]
   · rw [List.getElem?_append_right (by omega),List.getElem?_drop,List.getElem?_eq_none (l:=b) (by omega)]
     have:(zer (n:=8) 128)[b.length+(i-b.length)]?.getD 0=0:=by
       have:=nth_tab_ge (n:=8) (m:=128) (f:=fun _=>0) (i:=b.length+(i-b.length))
       by_cases hx:b.length+(i-b.length)<128
       · have:=nth_tab (n:=8) (m:=128) (f:=fun _=>0) hx
         simpa [nth,zer]using this
       · have:=this (by omega)
         simpa [nth,zer]using this
     simpa using this
 · rfl
theorem num_blkN(b:List Byte)(hb:b.length≤128):∀(r:Nat)(at_:Int),num (blkN b) at_ r=num b at_ r:=by
 intro r at_
 induction r with
 |zero=>rfl
 |succ r ih=>simp only [num,gb_blkN b hb,ih]
theorem mL_blkN(b:List Byte)(hb:b.length≤128):mL (blkN b)=mL b:=tab_ext fun i _=>num_blkN b hb 8 _
theorem plus_N(n m:Nat)(h:n+m<18446744073709551616)(w:World):Gives Tryz.prog 132 #[.agg #[v64 (BitVec.ofNat 64 n),v64 0#64], .agg #[v64 (BitVec.ofNat 64 m),v64 0#64]] w (.agg #[v64 (BitVec.ofNat 64 (n+m)),v64 0#64]):=by
 have:=oplus_any (BitVec.ofNat 64 n) 0#64 (BitVec.ofNat 64 m) 0#64 w
 rwa [carry_none n m h,ofNat_plus]at this
theorem natv64 {a:Nat}(h:a<18446744073709551616):Value.int .u64 (a:Int)=v64 (BitVec.ofNat 64 a):=by
 have:(BitVec.ofNat 64 a).toNat=a:=by simp;omega
 rw [v64,this]
theorem plus_M(n m:Nat)(h:n+m<18446744073709551616)(w:World):Gives Tryz.prog 132 #[.agg #[v64 (BitVec.ofNat 64 n),v64 0#64], .agg #[.int .u64 (m:Int), .int .u64 0]] w (.agg #[v64 (BitVec.ofNat 64 (n+m)),v64 0#64]):=by
 have:=plus_N n m h w
 rw [natv64 (a:=m) (by omega)];exact this
theorem hblock_any(g:Nat)(h:List (BitVec 64))(n:Nat)(v:Value)(sz:Int)(b:List Byte)(p:Option Addr)(c many:Nat)(last:Bool)(hh:h.length=8)(hb:b.length≤128)(hn:n+many<9223372036854775808)(w0 w:World)(R:List Blk)(hr:∀w' M,Own w0 w' (M++R)→RdB w' p b)(hc:CoefB w0)(hv:v.oneCell'=true)(hm:Own w0 w (⟨g,193,hashC h n v sz⟩::R)):
   Calls Tryz.prog 110 #[.pointer (some ⟨g,0,none⟩), .slice p b.length c, .int .i64 many, .bool last] w fun e w'=>e= .returned (.tuple #[])∧Own w0 w' (⟨g,193,hashC (compL h (mL b) (BitVec.ofNat 64 (n+many)) 0#64 last) (n+many) v sz⟩::R):=by
 have HC:=hid hc
 have HR:=hid hr
 have lB:=blkN_length b
 have CC:=hid fun wx hx=>compress_any h (blkN b) (BitVec.ofNat 64 (n+many)) 0#64 last hh lB wx hx
 rw [mL_blkN b hb]at CC
 have CP:=hid fun wx=>plus_M n many (by omega) wx
 have lC:(compL h (mL b) (BitVec.ofNat 64 (n+many)) 0#64 last).length=8:=compL_length _ _ _ _ _
 generalize compL h (mL b) (BitVec.ofNat 64 (n+many)) 0#64 last=C at*
 have EB:=hid (show over (zer 128) 0 (b.take 128)=blkN b from rfl)
 generalize blkN b=B at*
 have HH:=hid hh
 have LC:=hid lC
 have lc1:=hashC_length (n:=n) (v:=v) (sz:=sz) hh
 have lc2:=hashC_length (n:=n+many) (v:=v) (sz:=sz) hh
 clear hc hr hh lC
 go_enter Tryz.func110,Tryz.ntmps110
 go_wp2_with (first|((with_reducible show wpList _ _ _ (Oper.mk _ (Op.call _) _ _ _ _::_) _ _);refine wpl_cp8 hm rfl rfl rfl rfl Tryz.underlying22 (by kernel_rfl) (by repeat (first|exact Swap.hd|assumption|apply Swap.tl)) (HR.out _ [_,_] hm) rfl (EB.out) (by simp) ?_;clear hm;intro w hm)|((with_reducible apply wq_ldN hm);exact rfl;infer_instance;exact rfl;(focus (repeat first|exact .hd|assumption|apply Has.tl);done);(exact hashC_cnt HH.out);exact rfl)|(go_at_call 132;(with_reducible refine(CP.out _).mono ?_);rintro e_ w ⟨rfl,hx_⟩;replace hm:=hm.ext hx_;clear hx_)|((with_reducible apply wq_stA hm);exact rfl;infer_instance;exact rfl;exact rfl;(focus (repeat first|exact .hd|assumption|apply Swap.tl);done);(exact hashC_set_cnt HH.out);exact rfl;(exact(by rw [lc1];decide));(exact(by simp [one64]));clear hm;intro w hm)|((first|((with_reducible show qAl);first|(refine zG hm ?_)));clear hm;intro gx_;intro w hm))
 have HX:=hid hm.x
 refine rgE 14 37 ?_
 simp only [tSC,tZe,dSC,dZe,mCo,mNi]
 repeat (first
     |(apply walk_is rfl rfl rfl;(intro wx hwx;(with_reducible apply gq_ldN (hm.ext hwx));infer_instance;exact rfl;(focus (repeat first|exact .hd|assumption|apply Has.tl);done);(exact hashC_h HH.out);(exact(List.length_map ..).trans HH.out));(simp only [Act.put,sIB,sCS,sCZ];rfl))
     |(apply walk_is rfl rfl rfl;(intro wx hwx;(with_reducible apply gq_ldN (hm.ext hwx));infer_instance;exact rfl;(focus (repeat first|exact .hd|assumption|apply Has.tl);done);(exact hashC_cnt HH.out);exact rfl);(simp only [Act.put,sIB,sCS,sCZ];rfl))
     | (apply walk_is rfl rfl rfl
        · (intro wx hwx;first|((with_reducible show qGl);first|(exact zK (hm.ext hwx)))|(go_simp;(try go_bits);first|exact gives_same|exact gives_skip|with_reducible exact gives_call (CC.out wx (HC.out.ext (HX.out.trans hwx)))))
        · (simp only [Act.put,sIB,sCS,sCZ];rfl))
     | (apply walk_not rfl rfl rfl
        · (simp only [Act.put,sIB,sCS,sCZ];rfl)))
 intro wz hwz
 simp only [zCC,zNR]
 repeat (first|rw [fin_is]|(rw [fin_cons];intro _ _))
 rw [fin_nil]
 try (replace hm:=hm.ext hwz)
 simp only [Act.put,sIB,sCS,sCZ]
 go_wp2_with (first|((with_reducible apply wq_stA hm);exact rfl;infer_instance;exact rfl;exact rfl;(focus (repeat first|exact .hd|assumption|apply Swap.tl);done);(exact hashC_set_h HH.out LC.out);(exact(List.length_map ..).trans LC.out);(exact(by rw [lc2];decide));(exact(one_map _));clear hm;intro w hm))
 go_end0
 exact⟨rfl,hm.drop⟩
instance elem8:Elem Tryz.prog 5 1 1:=Elem.of (by kernel_rfl) (by omega)
def hashK(h0:List (BitVec 64))(d:List Byte)(k:Nat)(v:Value)(sz:Int):List Value:=hashC (chF h0 d k) (128*k) v sz
def RestO(M:List Blk)(d:List Byte)(k:Nat)(v:Value):Prop:=SlO M 5 1 v (d.length-128*k) ((d.drop (128*k)).map v8)
theorem RestO.rdB {M R N:List Blk}{d:List Byte}{k:Nat}{p:Option Addr}{n c:Nat}{w0 w:World}(h:RestO M d k (.slice p n c))(hm:Own w0 w (N++(M++R))):RdB w p (d.drop (128*k)):=by
 obtain⟨p',c',hv,_,_,h0,hc⟩:=SlO.cells h hm.dropN
 cases hv
 refine⟨fun hl=>h0 (by simpa using hl),fun i hi=> ?_⟩
 obtain⟨a,rfl,ha⟩:=hc i (v8 ((d.drop (128*k)).getD i 0)) (by rw [List.getElem?_map,List.getElem?_eq_getElem hi,List.getD_eq_getElem?_getD,List.getElem?_eq_getElem hi];rfl)
 exact ha
theorem RestO.len {M:List Blk}{d:List Byte}{k:Nat}{p:Option Addr}{n c:Nat}(h:RestO M d k (.slice p n c)):n=d.length-128*k∧n≤c∧c≤maxLen:=by
 rcases h.2 with ⟨h1,h2,_⟩|⟨g,o,cap,cur,h1,_,h2,h3,_⟩
 · cases h1;exact⟨h2.symm,Nat.le_refl _,by simp⟩
 · cases h1;exact⟨rfl,h2,h3⟩
theorem RestO.one {M:List Blk}{d:List Byte}{k:Nat}{v:Value}(h:RestO M d k v):v.oneCell'=true∧v.cells= #[v]:=by
 rcases h.2 with ⟨h1,_⟩|⟨g,o,cap,cur,h1,_⟩<;>subst h1<;>exact⟨rfl,rfl⟩
theorem RestO.slice {M:List Blk}{d:List Byte}{k:Nat}{v:Value}(h:RestO M d k v):∃p n c,v= .slice p n c:=by
 rcases h.2 with ⟨h1,_⟩|⟨g,o,cap,cur,h1,_⟩<;>exact⟨_,_,_,h1⟩
def restLen(g:Nat)(w:World):Nat:=match w.cell? ⟨g,10,none⟩with|some (.slice _ n _)=>n|_=>0
theorem restLen_is {g:Nat}{w:World}{p:Option Addr}{n c:Nat}(h:w.cell? ⟨g,10,none⟩=some (.slice p n c)):restLen g w=n:=by rw [restLen,h]
theorem hashK_rest {h0:List (BitVec 64)}{d:List Byte}{k:Nat}{v:Value}{sz:Int}(hh:h0.length=8):(hashK h0 d k v sz)[10]? =some v:=hashC_rest (chF_length h0 d hh k)
theorem hashK_set {h0:List (BitVec 64)}{d:List Byte}{k:Nat}{v v':Value}{sz:Int}(hh:h0.length=8):(hashK h0 d k v sz).set 10 v'=hashK h0 d k v' sz:=hashC_set_rest (chF_length h0 d hh k)
theorem hashK_length {h0:List (BitVec 64)}{d:List Byte}{k:Nat}{v:Value}{sz:Int}(hh:h0.length=8):(hashK h0 d k v sz).length=12:=hashC_length (chF_length h0 d hh k)
theorem hashK_append {h0:List (BitVec 64)}{d b:List Byte}{k:Nat}{v:Value}{sz:Int}(hk:128*k≤d.length):hashK h0 (d++b) k v sz=hashK h0 d k v sz:=by rw [hashK,chF_append _ _ _ _ hk];rfl
theorem cells_b {w:World}{p:Option Addr}{b:List Byte}(h:RdB w p b):∀(j:Nat)(u:Value),(b.map v8)[j]? =some u→∃a,p=some a∧w.cell? (a.add j)=some u:=by
 intro j u hj
 rw [List.getElem?_map]at hj
 obtain⟨x,hx,rfl⟩:=Option.map_eq_some_iff.1 hj
 obtain⟨hlt,hx'⟩:=List.getElem?_eq_some_iff.1 hx
 obtain⟨a,rfl⟩:=Option.isSome_iff_exists.1 (h.1 (by omega))
 refine⟨a,rfl, ?_⟩
 have:=h.2 j hlt
 simp only [Option.getD_some]at this
 rw [this,List.getD_eq_getElem?_getD,hx];rfl
theorem write_any(g:Nat)(h0:List (BitVec 64))(d:List Byte)(sz:Int)(b:List Byte)(p:Option Addr)(c:Nat)(hh:h0.length=8)(hlen:d.length+b.length≤70368744177664)(w0 w:World)(M R:List Blk)(v:Value)(hc:CoefB w0)(hb:RdB w p b)
   (hm:Own w0 w (⟨g,193,hashK h0 d (nbk d.length) v sz⟩::(M++R))) (hsl:RestO M d (nbk d.length) v):
   Calls Tryz.prog 93 #[.pointer (some ⟨g,0,none⟩), .slice p b.length c] w fun e w'=>e= .returned (.tuple #[])∧∃v' M',Own w0 w' (⟨g,193,hashK h0 (d++b) (nbk (d++b).length) v' sz⟩::(M'++R))∧RestO M' (d++b) (nbk (d++b).length) v':=by
 have HC:=hid hc
 have HH:=hid hh
 have HB:=hid hb
 have HS:=hid hsl
 have l1:=hashK_length (d:=d) (k:=nbk d.length) (v:=v) (sz:=sz) hh
 have LEN:=hid hlen
 have k0:=nbk_le d.length
 clear hc hh hb hsl hlen
 go_enter Tryz.func93,Tryz.ntmps93
 have FIT:=hid (show(d.length-128*nbk d.length+b.length)*(1+1)≤140737488355328 by have:=LEN.out;omega)
 obtain⟨D,hD⟩:∃D,d++b=D:=⟨_,rfl⟩
 have lD:D.length=d.length+b.length:=by rw [←hD,List.length_append]
 have hD46:D.length≤70368744177664:=by have:=LEN.out;omega
 have HD:=hid hD
 have hk0:nbk d.length≤nbk D.length:=nbk_mono (by omega)
 rw [hD]
 refine wp_scope_goto 0 (fun a_ w_=>∃(k:Nat)(v:Value)(M:List Blk)(u2 u3 u4 u5 u6 u7 u8 u9 u10 u11 u12 u13 u14 u15 u16 u17 u18 u19 u20 u21 u22 u23 u24 u25 u26 u27 u28 u29 u30 u31 u32 u33 u34 u35:Value),a_={tmps:= #[(.pointer (some ⟨g,0,none⟩)),(.slice p b.length c),u2,u3,u4,u5,u6,u7,u8,u9,u10,u11,u12,u13,u14,u15,u16,u17,u18,u19,u20,u21,u22,u23,u24,u25,u26,u27,u28,u29,u30,u31,u32,u33,u34,u35],defers:=[]}∧k≤nbk D.length∧Own w0 w_ (⟨g,193,hashK h0 D k v sz⟩::(M++R))∧RestO M D k v) (fun _ w_=>restLen g w_) rfl ?_ ?_
 · clear hm
   rintro a' w ⟨k,v,M,u2,u3,u4,u5,u6,u7,u8,u9,u10,u11,u12,u13,u14,u15,u16,u17,u18,u19,u20,u21,u22,u23,u24,u25,u26,u27,u28,u29,u30,u31,u32,u33,u34,u35,rfl,⟨hk,hm,hsl⟩⟩
   obtain⟨q,n,cap,rfl⟩:=hsl.slice
   obtain⟨hn,hnc,hcm⟩:=hsl.len
   have hrl:restLen g w=n:=restLen_is (by rw [row_cell (hm.row (by repeat (first|exact Has.hd|assumption|apply Has.tl)))];exact hashK_rest HH.out)
   have HRL:=hid hrl
   have lk:=nbk_le D.length
   have HK:=hid hk
   have HL:=hid lk
   have HN:=hid hn
   have LD:=hid lD
   have HS2:=hid hsl
   have lh:=hashK_length (d:=D) (k:=k) (v:= .slice q n cap) (sz:=sz) HH.out
   clear hrl hk lk hn lD hsl
   by_cases hle:n≤128
   · have hke:k=nbk D.length:=by
       have h1:=HK.out
       have h2:=HN.out
       rcases Nat.lt_or_ge k (nbk D.length)with h|h
       · have:=nbk_lt _ k h;omega
       · omega
     have hd:decide ((n:Int)≤128)=true:=by simp;omega
     have hd2:(n:Int)≤128:=by omega
     go_wp2_with (first|((with_reducible apply wq_ld1 hm);exact rfl;infer_instance;exact rfl;(focus (repeat first|exact .hd|assumption|apply Has.tl);done);(exact hashK_rest HH.out)))
     simp only [Exit.jump]
     refine bodyPost_ret (results_none rfl _ _ _) rfl ?_
     subst hke
     exact⟨rfl,_,_,hm,HS2.out⟩
   · have hd:decide ((n:Int)≤128)=false:=by simp;omega
     have hd2:¬(n:Int)≤128:=by omega
     have hcap:128≤(cap:Int):=by omega
     have hc128:¬cap=128:=by omega
     have lh2:=hashK_length (d:=D) (k:=k+1) (v:= .slice q n cap) (sz:=sz) HH.out
     have hn128:(128:Int)≤(n:Int):=by omega
     have hcap2:(cap:Int)≤9223372036854775807:=by unfold maxLen at hcm;omega
     have lb:(bkAt D k).length=128:=by have:=HN.out;unfold bkAt;rw [List.length_take,List.length_drop];omega
     have hkl:k<nbk D.length:=by
       rcases Nat.lt_or_ge k (nbk D.length)with h|h
       · exact h
       · have:=nbk_ge D.length k h;have:=HN.out;omega
     have CB:=fun wx hx=>hblock_any g (chF h0 D k) (128*k) (.slice q n cap) sz (bkAt D k) q cap 128 false (chF_length h0 D HH.out k) (by omega) (by have:=HL.out;have:=hD46;omega) w0 wx (M++R) (fun w' N h=>(HS2.out.rdB h).take 128) HC.out rfl hx
     rw [lb,show((128:Nat):Int)=128 from rfl]at CB
     have CB2:=hid CB
     obtain⟨g',o,rfl⟩:∃g' o,q=some ⟨g',o,none⟩:=by
       rcases HS2.out.2 with ⟨h1,h2,_⟩|⟨g',o,cap',cur,h1,_⟩
       · cases h1;omega
       · cases h1;exact⟨_,_,rfl⟩
     clear CB lb
     go_wp2_with (first|((with_reducible apply wq_ld1 hm);exact rfl;infer_instance;exact rfl;(focus (repeat first|exact .hd|assumption|apply Has.tl);done);(exact hashK_rest HH.out))|(go_at_call 110;(with_reducible refine(CB2.out _ hm).mono ?_);clear hm;rintro e_ w ⟨rfl,hm⟩;replace hm:Own w0 w (⟨g,193,hashK h0 D (k+1) (.slice (some ⟨g',o,none⟩) n cap) sz⟩::(M++R)):=hm)|((((with_reducible show qSt);first|(refine zF hm ?_)));clear hm;intro w hm))
     have hm2:Own w0 w (⟨g,193,hashK h0 D (k+1) (.slice (some ⟨g',o+128,none⟩) (n-128) (cap-128)) sz⟩::(M++R)):=by
       rw [hashK_set HH.out]at hm;exact hm
     have hs3:RestO M D (k+1) (.slice (some ⟨g',o+128,none⟩) (n-128) (cap-128)):=by
       have h1:=HN.out
       have h2:SlO M 5 1 (.slice (some ⟨g',o,none⟩) n cap) n ((D.drop (128*k)).map v8):=by have:=HS2.out;unfold RestO at this;rwa [←h1]at this
       have h3:=h2.behind (k:=128) (by omega)
       unfold RestO
       rw [show D.length-128*(k+1)=n-128 from by omega,show 128*(k+1)=128*k+128 from by omega,←List.drop_drop,List.map_drop]
       exact h3
     have hrl:restLen g w=n-128:=restLen_is (by rw [row_cell (hm2.row (by repeat (first|exact Has.hd|assumption|apply Has.tl)))];exact hashK_rest HH.out)
     have HRL2:=hid hrl
     clear hrl hm
     go_step3
     exact⟨rfl,⟨_,_,_,_,_,_,_,_,_,_,_,_,_,_,_,_,_,_,_,_,_,_,_,_,_,_,_,_,_,_,_,_,_,_,_,_,_,rfl,⟨hkl,hm2,hs3⟩⟩,by rw [HRL.out,HRL2.out];omega⟩
 · intro hp
   go_wp2_with (first|((with_reducible apply wq_ld1 hm);exact rfl;infer_instance;exact rfl;(focus (repeat first|exact .hd|assumption|apply Has.tl);done);(exact hashK_rest HH.out))|((with_reducible show wpList _ _ _ (Oper.mk _ (Op.call _) _ _ _ _::_) _ _);refine wplO_app (M:=M) (R:=⟨g,193,hashK h0 d (nbk d.length) v sz⟩::R) (ds:=b.map v8) (hm.perm (List.perm_middle.symm)) HS.out rfl rfl rfl rfl Tryz.underlying22 (by simp) (cells_b HB.out) (one_map _) FIT.out ?_;clear hm;intro v1 w M1 hm hs1;obtain⟨p_v1,c_v1,rfl⟩:=hs1.form;replace hm:=hm.perm (List.perm_middle))|((((with_reducible show qSt);first|(refine zF hm ?_)));clear hm;intro w hm))
   have hm2:Own w0 w (⟨g,193,hashK h0 d (nbk d.length) (.slice p_v1 (d.length-128*nbk d.length+b.length) c_v1) sz⟩::(M1++R)):=by
     rw [hashK_set HH.out]at hm;exact hm
   rw [←hashK_append (b:=b) k0,HD.out]at hm2
   have hs2:RestO M1 D (nbk d.length) (.slice p_v1 (d.length-128*nbk d.length+b.length) c_v1):=by
     unfold RestO
     rw [←HD.out,List.drop_append_of_le_length k0,List.map_append,List.length_append,show d.length+b.length-128*nbk d.length=d.length-128*nbk d.length+b.length from by omega]
     exact hs1
   go_step3
   rename_i hK
   exact hK _ _ (hp _ _ ⟨_,_,_,_,_,_,_,_,_,_,_,_,_,_,_,_,_,_,_,_,_,_,_,_,_,_,_,_,_,_,_,_,_,_,_,_,_,rfl,⟨hk0,hm2,hs2⟩⟩)
theorem wq_mkR {ops:Array Oper}{Q:Exit→Act→World→Prop}{rest:List Oper}{dst:Option Tmp}{ty:TypeId}{pos:String}{aft:Array Edge}{gd:Option (Nat×Bool)}{a:Act}{w0 w:World}{L:List Blk}{x y:Operand}{N C:Int}(n m:Nat)
   (hm:Own w0 w L) (hgd:Region.wanted (Oper.mk dst (.makeSlice 22 x y) ty pos aft gd) (yielded ops a.tmps)=true) (hx:a.eval x= .int .i64 N) (hy:a.eval y= .int .i64 C) (hN:N=(n:Int)) (hC:C=(m:Int)) (hnm:n≤m) (hmm:m≤281474976710656)
   (hr:∀g w',Own w0 w' (⟨g,5,(zeros m).map v8⟩::L)→wpList Tryz.prog ops Q rest (a.put dst (.slice (some ⟨g,0,none⟩) n m)) w'):wpList Tryz.prog ops Q ((Oper.mk dst (.makeSlice 22 x y) ty pos aft gd)::rest) a w:=
 wpList_want hgd fun K hK=>by
   subst hN hC
   obtain⟨i,hi,hz,hs,hb⟩:=info_byte
   have h:=run_make (P:=Tryz.prog) w 22 5 i (.int .u8 0) Tryz.underlying22 hi hz .i64 .i64 n m (by omega) (by omega) (by rw [hb];omega) (by omega)
   rw [hs,Nat.mul_one]at h
   simp only [Int.toNat_natCast,Value.cells,madeCells_v8]at h
   unfold Oper.wp execOp
   simp only [hx,hy,Sem.run_bind,h,Result.andThen_ok,Sem.run_pure]
   exact hK _ _ (hr _ _ (hm.alloc 5 ((zeros m).map v8)))
theorem run_index_v {P:Program}{T e:TypeId}{n b:Nat}{f:BitVec b→Value}(hT:P.underlying T=some (.array n e))[hE:One1 P e](l:List (BitVec b))(hl:l.length=n)(k:Nat)(hk:k<n)(w:World):(Instr.index T (.agg (l.map f).toArray) (.int .i64 (k:Int))).run P w= .ok (f (nth l k)) w:=by
 obtain⟨d,hu,hd⟩:=Option.map_eq_some_iff.1 hE.row
 obtain⟨i,hi1,hi2⟩:=Option.map_eq_some_iff.1 hE.size
 have hagg:(isAgg e).run P w= .ok false w:=by
   unfold isAgg
   rw [Sem.run_bind,run_underlying hu w]
   cases d<;>simp_all
 have hc:(l.map f)[k]? =some (f (nth l k)):=mapv_at f l (by omega)
 have hk2:(0:Int)≤(k:Int)∧(k:Int)<(n:Int):=by omega
 simp [Instr.index,asIntOf,Sem.run_bind,run_underlying hT,hk2,sizeOf,typeInfo,hi1,hi2,hk,Go.part,hagg,nth_get (show k<l.length by omega)]
 rw [List.getElem?_eq_getElem (by omega)];rfl
theorem wq_idx {P:Program}{ops:Array Oper}{Q:Exit→Act→World→Prop}{rest:List Oper}{dst:Option Tmp}{ty:TypeId}{pos:String}{aft:Array Edge}{gd:Option (Nat×Bool)}{a:Act}{w:World}{x y:Operand}{T e:TypeId}{n b k:Nat}{f:BitVec b→Value}{l:List (BitVec b)}(hT:P.underlying T=some (.array n e))(hE:One1 P e)(hgd:Region.wanted (Oper.mk dst (.index T x y) ty pos aft gd) (yielded ops a.tmps)=true)(hx:a.eval x= .agg (l.map f).toArray)(hy:a.eval y= .int .i64 (k:Int))(hl:l.length=n)(hk:k<n)
   (hr:wpList P ops Q rest (a.put dst (f (nth l k))) w):wpList P ops Q ((Oper.mk dst (.index T x y) ty pos aft gd)::rest) a w:=
 wpList_want hgd fun K hK=>by
   unfold Oper.wp execOp
   simp only [hx,hy,Sem.run_bind,run_index_v hT l hl k hk w,Result.andThen_ok,Sem.run_pure]
   exact hK _ _ hr
theorem hashC_one {h:List (BitVec 64)}{n:Nat}{v:Value}{sz:Int}(hv:v.oneCell'=true):∀u∈hashC h n v sz,u.oneCell'=true:=by
 intro u hu
 simp only [hashC,List.mem_append,List.mem_cons,List.not_mem_nil,or_false]at hu
 rcases hu with hu|(rfl|rfl)|rfl|rfl
 · exact one_map _ u hu
 · rfl
 · rfl
 · exact hv
 · rfl
theorem outL_take(h:List (BitVec 64))(k:Nat)(hk:k<h.length):outL (h.take (k+1))=outL (h.take k)++putL (nth h k) 8:=by
 rw [List.take_succ_eq_append_getElem hk,outL,outL,List.map_append,List.flatten_append]
 simp [nth_get hk]
theorem hsum_any(g:Nat)(h0:List (BitVec 64))(d:List Byte)(sz:Nat)(hh:h0.length=8)(hsz:sz≤64)(hlen:d.length≤70368744177664)(w0 w:World)(M R:List Blk)(v:Value)(hc:CoefB w0)
   (hm:Own w0 w (⟨g,193,hashK h0 d (nbk d.length) v sz⟩::(M++R))) (hsl:RestO M d (nbk d.length) v):
   Calls Tryz.prog 94 #[.pointer (some ⟨g,0,none⟩)] w fun e w'=>∃x,e= .returned x∧BytesS ((outL (finL h0 d)).take sz) x w'∧Own w0 w' (⟨g,193,hashK h0 d (nbk d.length) v sz⟩::(M++R)):=by
 obtain⟨q,n,cap,rfl⟩:=hsl.slice
 obtain⟨hn,hnc,hcm⟩:=hsl.len
 have hnk:=nbk_rest d.length
 have hkk:=nbk_le d.length
 have HC:=hid hc
 have HH:=hid hh
 have HS:=hid hsl
 have l1:=hashK_length (d:=d) (k:=nbk d.length) (v:= .slice q n cap) (sz:=sz) hh
 have lr:(d.drop (128*nbk d.length)).length=n:=by rw [List.length_drop,hn]
 have CB:=fun g1 wx hx=>hblock_any g1 (chF h0 d (nbk d.length)) (128*nbk d.length) (.slice q n cap) sz (d.drop (128*nbk d.length)) q cap n true (chF_length h0 d hh _) (by omega) (by omega) w0 wx (⟨g,193,hashK h0 d (nbk d.length) (.slice q n cap) sz⟩::(M++R)) (fun w' N h=>by
   rw [List.append_cons]at h;exact HS.out.rdB h) HC.out rfl hx
 rw [lr,show 128*nbk d.length+n=d.length from by omega]at CB
 have lF:(finL h0 d).length=8:=finL_length h0 d
 have CB2:=hid CB
 have EF:Hid (compL (chF h0 d (nbk d.length)) (mL (d.drop (128*nbk d.length))) (BitVec.ofNat 64 d.length) 0#64 true=finL h0 d):=hid rfl
 rw [EF.out]at CB2
 have HF:=hid lF
 have hsz2:(sz:Int)≤64:=by omega
 have E0:=hid (show hashK h0 d (nbk d.length) (.slice q n cap) sz=hashC (chF h0 d (nbk d.length)) (128*nbk d.length) (.slice q n cap) sz from rfl)
 have ONE:=hid (show∀u∈hashK h0 d (nbk d.length) (.slice q n cap) sz,u.oneCell'=true from hashC_one rfl)
 have X10:=hid (show(hashK h0 d (nbk d.length) (.slice q n cap) sz)[10]? =some (.slice q n cap)from hashK_rest hh)
 generalize hX:hashK h0 d (nbk d.length) (.slice q n cap) sz=X at*
 rw [←E0.out]at CB2
 generalize finL h0 d=F at*
 have lX:=l1
 clear CB EF hn hnk hkk hcm hX hsl hc hh lF l1
 go_enter Tryz.func94,Tryz.ntmps94
 go_wp2_with (first|((with_reducible apply wq_stW hm);exact rfl;infer_instance;exact rfl;exact rfl;(focus (repeat first|exact .hd|assumption|apply Swap.tl);done);exact lX;(first|rfl|(simp;done));exact ONE.out;clear hm;intro w hm)|((with_reducible apply wq_ldW hm);exact rfl;infer_instance;exact rfl;(focus (repeat first|exact .hd|assumption|apply Has.tl);done);exact lX)|((with_reducible apply wq_ld1 hm);exact rfl;infer_instance;exact rfl;(focus (repeat first|exact .hd|assumption|apply Has.tl);done);(exact X10.out))|(go_at_call 110;(with_reducible refine(CB2.out _ _ hm).mono ?_);clear hm;rintro e_ w ⟨rfl,hm⟩)|((with_reducible apply wq_mkR 0 64 hm);exact rfl;exact rfl;exact rfl;exact rfl;exact rfl;omega;omega;clear hm;intro g2 w hm)|((with_reducible apply wq_ldN hm);exact rfl;infer_instance;exact rfl;(focus (repeat first|exact .hd|assumption|apply Has.tl);done);(exact hashC_h HF.out);(exact(List.length_map ..).trans HF.out))|((first|((with_reducible show qAl);first|(refine zG hm ?_)));clear hm;(first|(have hx_:=g1;clear hx_;(first|(have hx_:=g2;clear hx_;intro gx_)|intro g2))|intro g1);intro w hm))
 obtain⟨RR,hRR⟩:∃RR,(⟨g1,193,hashC F d.length (.slice q n cap) sz⟩::⟨g,193,X⟩::(M++R):List Blk)=RR:=⟨_,rfl⟩
 have hg1:Has RR ⟨g1,193,hashC F d.length (.slice q n cap) sz⟩:=hRR ▸ .hd
 have hend:∀w,Own w0 w RR→Own w0 w (⟨g,193,X⟩::(M++R)):=fun w h=>by rw [←hRR]at h;exact h.drop
 have HE:=hid hend
 rw [hRR]at hm
 clear hRR hend
 go_loopw [4,22] (fun v i wr=>∃(k:Nat)(Mo:List Blk),k≤8∧i= .int .i64 k∧SlO Mo 5 1 v (8*k) ((outL (F.take k)).map v8)∧Own w0 wr (Mo++RR)) (fun _ i _=>8-(intOf i).toNat)
 case atStart=>exact⟨0,[_],by omega,rfl,SlO.room g2 5 1 64 _ (by simp) (by decide),hm⟩
 case round=>
   obtain⟨k,Mo,hk,rfl,hso,hm⟩:=hrel
   obtain⟨p0,c0,rfl⟩:=hso.form
   have HSO:=hid hso
   clear hso
   by_cases hlt:k<8
   · have hd:decide ((k:Int)<8)=true:=by simp;omega
     have lF:=HF.out
     have lF1:=Nat.le_of_eq HF.out
     have lF2:=Nat.le_of_eq HF.out.symm
     have lp:(putL (nth F k) 8).length=8:=putL_length _ _
     have et:=hid (outL_take F k (by omega))
     have CP:=hid fun wx=>putlong_any' (nth F k) wx
     generalize putL (nth F k) 8=B at*
     go_wp2_with (first|((with_reducible apply wq_idx (l:=F) (k:=k) Tryz.underlying189);infer_instance;exact rfl;exact rfl;exact rfl;exact lF;exact hlt)|(go_at_call 11;(with_reducible refine(CP.out _).mono ?_);rintro e_ w ⟨rfl,hx_⟩;replace hm:=hm.ext hx_;clear hx_)|((with_reducible show wpList _ _ _ (Oper.mk _ (Op.call _) _ _ _ _::_) _ _);refine wplO_app (M:=Mo) (R:=_) (ds:=B.map v8) (hm.perm (List.perm_middle.symm)) HSO.out rfl rfl rfl rfl Tryz.underlying22 (by simpa using lp) (cells_b (hm.rdB (by repeat (first|exact Has.hd|assumption|apply Has.tl)))) (one_map _) (by omega) ?_;clear hm;intro v1 w M1 hm hs1;obtain⟨p_v1,c_v1,rfl⟩:=hs1.form;replace hm:=hm.perm (List.perm_middle))|((((with_reducible show qSt);first|(refine zE hm ?_)));clear hm;intro w hm)|((first|((with_reducible show qAl);first|(refine zG hm ?_)));clear hm;(first|(have hx_:=g1;clear hx_;(first|(have hx_:=g2;clear hx_;intro gx_)|intro g2))|intro g1);intro w hm))
     go_roundw
     case rel=>exact⟨k+1,M1,by omega,by go_num,by rw [et.out,List.map_append];exact hs1,hm.drop⟩
     case measure=>simp [intOf]<;>omega
   · obtain rfl:k=8:=by omega
     have hso:=HSO.out
     rw [List.take_of_length_le (Nat.le_of_eq HF.out)]at hso
     obtain⟨_,_,hv,hnc0,_,h0,hcell⟩:=hso.cells hm
     cases hv
     have hrd:RdB wr p0 (outL F):=⟨fun hl=>h0 (by omega),fun i hi=>by
       obtain⟨a,rfl,ha⟩:=hcell i (v8 ((outL F).getD i 0)) (by rw [List.getElem?_map,List.getElem?_eq_getElem hi,List.getD_eq_getElem?_getD,List.getElem?_eq_getElem hi];rfl)
       exact ha⟩
     have HRD:=hid hrd
     have lO:(outL F).length=64:=by rw [outL_length,HF.out]
     have hc0:(64:Int)≤(c0:Int):=by omega
     have hsc:(sz:Int)≤(c0:Int):=by omega
     have hg2:=Has.app (M:=Mo) hg1
     clear hrd hcell hso
     go_wp2_with (first|((with_reducible apply wq_ld1 hm);exact rfl;infer_instance;exact rfl;(focus (repeat first|exact .hd|assumption|apply Has.tl);done);(exact hashC_size HF.out)))
     go_ret
     have lt:((outL F).take sz).length=sz:=by rw [List.length_take,lO];omega
     refine⟨_,rfl,⟨p0,c0, ?_,by rw [lt];omega,HRD.out.take sz⟩,HE.out _ hm.dropN⟩
     rw [lt];rfl
section
variable {P:Program} {ops:Array Oper} {Q:Exit→Act→World→Prop} {rest:List Oper} {dst:Option Tmp} {ty:TypeId} {pos:String} {aft:Array Edge} {gd:Option (Nat×Bool)} {a:Act} {w:World} {T:TypeId} {x:Operand} {n:Nat} {cs:List Value} {A:Addr}
theorem run_rdN(h:∀(j:Nat)(v:Value),cs[j]? =some v→w.cell? (A.add j)=some v)[hT:Many P T n](hn:cs.length=n):(Instr.loadAt T (.pointer (some A))).run P w= .ok (.agg cs.toArray) w:=by
 obtain⟨d,hu,hd⟩:=Option.map_eq_some_iff.1 hT.row
 have hl:(loadCells A cs.length).run P w= .ok cs.toArray w:=run_loadCells_list (P:=P) w A cs h
 have hagg:(isAgg T).run P w= .ok true w:=by
   unfold isAgg
   rw [Sem.run_bind,run_underlying hu w]
   cases d<;>simp_all
 obtain⟨i,hi1,hi2⟩:=Option.map_eq_some_iff.1 hT.size
 simp [Instr.loadAt,Instr.sureAddr,loadVar,Sem.run_bind,hagg,sizeOf,typeInfo,hi1,hi2,←hn,hl]
theorem wq_rdN(h:∀(j:Nat)(v:Value),cs[j]? =some v→w.cell? (A.add j)=some v)(hgd:Region.wanted (Oper.mk dst (.load T x) ty pos aft gd) (yielded ops a.tmps)=true)(hT:Many P T n)(hx:a.eval x= .pointer (some A))(hn:cs.length=n)(hr:wpList P ops Q rest (a.put dst (.agg cs.toArray)) w):wpList P ops Q ((Oper.mk dst (.load T x) ty pos aft gd)::rest) a w:=
 wpList_want hgd fun K hK=>by
   unfold Oper.wp execOp
   simp only [hx,Sem.run_bind,run_rdN h hn,Result.andThen_ok,Sem.run_pure]
   exact hK _ _ hr
end
theorem wq_build2 {P:Program}{ops:Array Oper}{Q:Exit→Act→World→Prop}{rest:List Oper}{dst:Option Tmp}{ty:TypeId}{pos:String}{aft:Array Edge}{gd:Option (Nat×Bool)}{a:Act}{w:World}{T:TypeId}{x y:Operand}{v:Value}{i j:Nat}{u u':Value}(hb:∀w,(Instr.build T #[(i,u),(j,u')]).run P w= .ok v w)(hgd:Region.wanted (Oper.mk dst (.build T #[(i,x),(j,y)]) ty pos aft gd) (yielded ops a.tmps)=true)(hx:a.eval x=u)(hy:a.eval y=u')(hr:wpList P ops Q rest (a.put dst v) w):wpList P ops Q ((Oper.mk dst (.build T #[(i,x),(j,y)]) ty pos aft gd)::rest) a w:=
 wq_buildN (fun w=>by simpa [hx,hy]using hb w) hgd hr
theorem CoefB.first {w:World}(h:CoefB w):∀(j:Nat)(v:Value),(firstL.map v64)[j]? =some v→w.cell? ((⟨3,0,none⟩:Addr).add j)=some v:=by
 intro j v hj
 rw [Addr.add_mid,Nat.zero_add]
 have hl:j<8:=by
   have:=(List.getElem?_eq_some_iff.1 hj).1
   simpa [firstL_length]using this
 rw [h.1 j hl,←hj,map64_at firstL (by rw [firstL_length];exact hl)]
theorem build_hash(sz:Int)(w:World):(Instr.build 193 #[(0,A64 firstL),(3, .int .i64 sz)]).run Tryz.prog w= .ok (.agg (hashC firstL 0 (.slice none 0 0) sz).toArray) w:=by kernel_rfl
theorem start_bits(k s:Nat)(hk:k≤64)(hs:s≤64):BitVec.ofInt 64 (bits BinOp.xor IntKind.u64 (bits BinOp.xor IntKind.u64 16842752 ((k:Int)*256)) (s:Int))=((0x01010000#64)^^^(BitVec.ofNat 64 k<<<8))^^^BitVec.ofNat 64 s:=by
 have:∀k s:Fin 65,BitVec.ofInt 64 (bits BinOp.xor IntKind.u64 (bits BinOp.xor IntKind.u64 16842752 ((k.val:Int)*256)) (s.val:Int))=((0x01010000#64)^^^(BitVec.ofNat 64 k.val<<<8))^^^BitVec.ofNat 64 s.val:=by decide+kernel
 exact this ⟨k,by omega⟩ ⟨s,by omega⟩
theorem hashC_set0 {h:List (BitVec 64)}{n:Nat}{v:Value}{sz:Int}{x:BitVec 64}(hh:h.length=8):(hashC h n v sz).set 0 (v64 x)=hashC (setN h 0 x) n v sz:=by
 unfold hashC;rw [List.set_append_left _ _ (by simp [hh]),mapv_set]
theorem new_ok(size:Nat)(key:List Byte)(p:Option Addr)(c:Nat)(h0:1≤size)(h1:size≤64)(hk:key.length≤64)(w0 w:World)(L:List Blk)(hc:CoefB w0)(hr:∀w' M,Own w0 w' (M++L)→RdB w' p key)(hm:Own w0 w L):
   Calls Tryz.prog 92 #[.int .i64 size, .slice p key.length c] w fun e w'=>∃g v M,e= .returned (.tuple #[.pointer (some ⟨g,0,none⟩), .int .i64 0])∧Own w0 w' (⟨g,193,hashK (startL size key.length) (keyL key) (nbk (keyL key).length) v size⟩::(M++L))∧RestO M (keyL key) (nbk (keyL key).length) v:=by
 have a1:decide ((size:Int)<1)=false:=by simp;omega
 have a2:¬(size:Int)<1:=by omega
 have a3:decide ((64:Int)<(size:Int))=false:=by simp;omega
 have a4:¬(64:Int)<(size:Int):=by omega
 have a5:decide ((64:Int)<(key.length:Int))=false:=by simp;omega
 have a6:¬(64:Int)<(key.length:Int):=by omega
 have HC:=hid hc
 have HR:=hid hr
 have lf:=hashC_length (h:=firstL) (n:=0) (v:= .slice none 0 0) (sz:=(size:Int)) firstL_length
 have ES:=hid (show(hashC firstL 0 (.slice none 0 0) (size:Int)).set 0 (v64 (nth firstL 0^^^BitVec.ofInt 64 (bits BinOp.xor IntKind.u64 (bits BinOp.xor IntKind.u64 16842752 ((key.length:Int)*256)) (size:Int))))=hashK (startL size key.length) [] 0 (.slice none 0 0) size by
   rw [hashC_set0 firstL_length,start_bits _ _ hk h1];rfl)
 have f0:=hid (show(hashC firstL 0 (.slice none 0 0) (size:Int))[0]? =some (v64 (nth firstL 0))from rfl)
 clear hc hr
 by_cases hk0:key.length=0
 · have b1:decide ((0:Int)<(key.length:Int))=false:=decide_eq_false (by omega)
   have b2:¬(0:Int)<(key.length:Int):=by omega
   have b3:¬0<key.length:=by omega
   have EK:=hid (show keyL key=[]by rw [keyL,if_pos hk0])
   clear hk0
   go_enter Tryz.func92,Tryz.ntmps92
   go_wp2_with (first|((with_reducible apply wq_rdN (cs:=firstL.map v64) (HC.out.ext hm.x).first);exact rfl;infer_instance;exact rfl;exact rfl)|((with_reducible apply wq_build2 (build_hash (size:Int)));exact rfl;exact rfl;exact rfl)|((first|((with_reducible show qBx);first|(refine zH hm ?_)));clear hm;(first|(have hx_:=g1;clear hx_;intro gx_)|intro g1);intro w hm))
   refine rgE 17 47 ?_
   simp only [tSC,tZe,dSC,dZe,mCo,mNi]
   repeat (first
       |(apply walk_is rfl rfl rfl;(intro wx hwx;(with_reducible apply gq_ld1 (hm.ext hwx));infer_instance;exact rfl;(focus (repeat first|exact .hd|assumption|apply Has.tl);done);(exact f0.out));(simp only [Act.put,sIB,sCS,sCZ];rfl))
       | (apply walk_is rfl rfl rfl
          · (intro wx hwx;go_simp;(try go_bits);first|exact gives_same|exact gives_skip)
          · (simp only [Act.put,sIB,sCS,sCZ];rfl))
       | (apply walk_not rfl rfl rfl
          · (simp only [Act.put,sIB,sCS,sCZ];rfl)))
   intro wz hwz
   simp only [zCC,zNR]
   repeat (first|rw [fin_is]|(rw [fin_cons];intro _ _))
   rw [fin_nil]
   try (replace hm:=hm.ext hwz)
   simp only [Act.put,sIB,sCS,sCZ]
   go_wp2_with (first|((((with_reducible show qSt);first|((with_reducible apply wq_s1v (f:=v64) hm);exact rfl;infer_instance;exact rfl;exact rfl;infer_instance;(focus (repeat first|exact .hd|assumption|apply Swap.tl);done);(focus (first|omega|(simp;omega)|(refine ltB ?_;first|omega|(simp;done)|(simp;omega)))))));clear hm;intro w hm))
   go_ret2
   rw [ES.out]at hm
   rw [EK.out]
   exact⟨g1, .slice none 0 0,[],rfl,hm,SlO.nil _ _⟩
 · have b1:decide ((0:Int)<(key.length:Int))=true:=decide_eq_true (by omega)
   have b2:(0:Int)<(key.length:Int):=by omega
   have b3:0<key.length:=by omega
   have EK:=hid (show keyL key=pad key 128 by rw [keyL,if_neg hk0])
   have lp:(pad key 128).length≤200:=by
     rw [pad,List.length_append,List.length_replicate]
     have:=roomN_lt key.length 128;omega
   have LP:=hid lp
   clear hk0 lp
   go_enter Tryz.func92,Tryz.ntmps92
   go_wp2_with (first|((with_reducible apply wq_rdN (cs:=firstL.map v64) (HC.out.ext hm.x).first);exact rfl;infer_instance;exact rfl;exact rfl)|((with_reducible apply wq_build2 (build_hash (size:Int)));exact rfl;exact rfl;exact rfl)|((first|((with_reducible show qBx);first|(refine zH hm ?_)));clear hm;(first|(have hx_:=g1;clear hx_;intro gx_)|intro g1);intro w hm))
   refine rgE 17 47 ?_
   simp only [tSC,tZe,dSC,dZe,mCo,mNi]
   repeat (first
       |(apply walk_is rfl rfl rfl;(intro wx hwx;(with_reducible apply gq_ld1 (hm.ext hwx));infer_instance;exact rfl;(focus (repeat first|exact .hd|assumption|apply Has.tl);done);(exact f0.out));(simp only [Act.put,sIB,sCS,sCZ];rfl))
       | (apply walk_is rfl rfl rfl
          · (intro wx hwx;go_simp;(try go_bits);first|exact gives_same|exact gives_skip)
          · (simp only [Act.put,sIB,sCS,sCZ];rfl))
       | (apply walk_not rfl rfl rfl
          · (simp only [Act.put,sIB,sCS,sCZ];rfl)))
   intro wz hwz
   simp only [zCC,zNR]
   repeat (first|rw [fin_is]|(rw [fin_cons];intro _ _))
   rw [fin_nil]
   try (replace hm:=hm.ext hwz)
   simp only [Act.put,sIB,sCS,sCZ]
   go_wp2_with (first|((((with_reducible show qSt);first|((with_reducible apply wq_s1v (f:=v64) hm);exact rfl;infer_instance;exact rfl;exact rfl;infer_instance;(focus (repeat first|exact .hd|assumption|apply Swap.tl);done);(focus (first|omega|(simp;omega)|(refine ltB ?_;first|omega|(simp;done)|(simp;omega)))))));clear hm;intro w hm))
   refine(padded_any key p c 128 _ (HR.out _ [_] hm) (by omega) (by decide) (by decide)).mono ?_
   rintro e w ⟨v,rfl,⟨pp,cc,rfl,hcc,hrb⟩,hx_⟩
   replace hm:=hm.ext hx_
   rw [ES.out]at hm
   have HRB:=hid hrb
   clear hx_ hrb
   go_wp2_with fail
   refine(write_any g1 (startL size key.length) [] size (pad key 128) pp cc (startL_length _ _) (by have:=LP.out;simp;omega) w0 _ [] L (.slice none 0 0) HC.out HRB.out hm (SlO.nil _ _)).mono ?_
   rintro e w ⟨rfl,v',M',hm,hs⟩
   go_wp2
   go_ret2
   rw [EK.out]
   rw [List.nil_append]at hm hs
   exact⟨g1,v',M',rfl,hm,hs⟩
theorem keyL_length(key:List Byte)(hk:key.length≤64):(keyL key).length≤200:=by
 unfold keyL
 split
 · simp
 · rw [pad,List.length_append,List.length_replicate]
   have:=roomN_lt key.length 128;omega
theorem bsum_ok(size:Nat)(key:List Byte)(p:Option Addr)(c:Nat)(b:List Byte)(q:Option Addr)(d:Nat)(h0:1≤size)(h1:size≤64)(hk:key.length≤64)(hb:b.length≤35184372088832)(w0 w:World)(L:List Blk)(hc:CoefB w0)(hr:∀w' M,Own w0 w' (M++L)→RdB w' p key)(hr2:∀w' M,Own w0 w' (M++L)→RdB w' q b)(hm:Own w0 w L):
   Calls Tryz.prog 68 #[.int .i64 size, .slice p key.length c, .slice q b.length d] w fun e w'=>∃x,e= .returned (.tuple #[x, .int .i64 0])∧BytesS (sumL size key b) x w'∧∃M,Own w0 w' (M++L):=by
 have lk:=keyL_length key hk
 have HC:=hid hc
 have HR:=hid hr
 have HR2:=hid hr2
 clear hc hr hr2
 go_enter Tryz.func68,Tryz.ntmps68
 go_wp2_with fail
 refine(new_ok size key p c h0 h1 hk w0 _ L HC.out HR.out hm).mono ?_
 rintro e w ⟨g,v,M,rfl,hm,hs⟩
 go_wp2_with fail
 refine(write_any g _ (keyL key) size b q d (startL_length _ _) (by omega) w0 _ M L v HC.out (HR2.out _ (⟨g,193,_⟩::M) hm) hm hs).mono ?_
 rintro e w ⟨rfl,v',M',hm,hs⟩
 go_wp2_with fail
 refine(hsum_any g _ (keyL key++b) size (startL_length _ _) h1 (by rw [List.length_append];omega) w0 _ M' L v' HC.out hm hs).mono ?_
 rintro e w ⟨x,rfl,hx,hm⟩
 go_wp2
 go_ret2
 exact⟨x,rfl,hx,⟨g,193,_⟩::M',hm⟩
@[go_sem] theorem and1_nat (t : TypeId) (N : Nat) : binOp .and t (.int .i64 (N : Int)) (.int .i64 1) = pure (.int .i64 ((N % 2 : Nat) : Int)) := by
 rw [binOp_and]
 show pure (Value.int .i64 (IntKind.i64.wrap ((BitVec.ofInt 64 (N:Int)&&&BitVec.ofInt 64 1).toNat:Nat)))=_
 have e:(BitVec.ofInt 64 (N:Int)&&&BitVec.ofInt 64 1).toNat=N%2:=by
   rw [ofInt_nat',show BitVec.ofInt 64 1=1#64 from by decide,BitVec.toNat_and]
   simp only [BitVec.toNat_ofNat,show(1%2^64)=1 from by decide,Nat.and_one_is_mod]
   omega
 rw [e,IntWalk.i64_in _ (by omega)]
theorem bits_and1(N:Nat):bits .and .i64 (N:Int) 1=((N%2:Nat):Int):=by
 show IntKind.i64.wrap ((BitVec.ofInt 64 (N:Int)&&&BitVec.ofInt 64 1).toNat:Nat)=_
 have e:(BitVec.ofInt 64 (N:Int)&&&BitVec.ofInt 64 1).toNat=N%2:=by
   rw [ofInt_nat',show BitVec.ofInt 64 1=1#64 from by decide,BitVec.toNat_and]
   simp only [BitVec.toNat_ofNat,show(1%2^64)=1 from by decide,Nat.and_one_is_mod]
   omega
 rw [e,IntWalk.i64_in _ (by omega)]
@[go_sem] theorem shr1_nat (t : TypeId) (N : Nat) : binOp .shr t (.int .i64 (N : Int)) (.int .u64 1) = pure (.int .i64 ((N / 2 : Nat) : Int)) := by
 simp only [binOp_shr,Op.shift]
 have:((N:Int).fdiv (2^(min (1:Int).toNat IntKind.i64.bits)))=((N/2:Nat):Int):=by
   rw [show min (1:Int).toNat IntKind.i64.bits=1 from by decide,Int.fdiv_eq_ediv_of_nonneg _ (by decide)];omega
 rw [this];rfl
theorem build_z16(w:World):(Instr.build 132 #[]).run Tryz.prog w= .ok (A8 (zer 16)) w:=by kernel_rfl
open Go
def bothL(a b:List Byte):List Byte:=tab 16 fun i=>nth a i^^^nth b i
theorem bothL_length(a b:List Byte):(bothL a b).length=16:=tab_length
theorem bothL_nth(a b:List Byte)(i:Nat)(h:i<16):nth (bothL a b) i=nth a i^^^nth b i:=nth_tab h
def dbl(a:Byte):Byte:=(a<<<1)^^^((a>>>7)*27#8)
def tmsG:Nat→Byte→Byte→Byte
 |0,_,_=>0#8
 |n+1,a,b=>(a*(b&&&1#8))^^^tmsG n (dbl a) (b>>>1)
def tms(a b:Byte):Byte:=tmsG 8 a b
theorem bit_cases(b:Byte):b&&&1#8=0#8∨b&&&1#8=1#8:=by revert b;decide+kernel
theorem bit_mul(a x y:Byte):a*((x^^^y)&&&1#8)=(a*(x&&&1#8))^^^(a*(y&&&1#8)):=by
 have e:(x^^^y)&&&1#8=(x&&&1#8)^^^(y&&&1#8):=by
   apply BitVec.eq_of_getLsbD_eq;intro i hi;simp only [BitVec.getLsbD_and,BitVec.getLsbD_xor];cases x.getLsbD i<;>cases y.getLsbD i<;>simp
 rw [e]
 rcases bit_cases x with h|h<;>rcases bit_cases y with k|k<;>rw [h,k]<;>simp
theorem xor4(a b c d:Byte):(a^^^b)^^^(c^^^d)=(a^^^c)^^^(b^^^d):=by
 ac_rfl
theorem tmsG_xb(n:Nat):∀a x y:Byte,tmsG n a (x^^^y)=tmsG n a x^^^tmsG n a y:=by
 induction n with
 |zero=>intros;simp [tmsG]
 |succ n ih=>intro a x y;rw [tmsG,tmsG,tmsG,BitVec.ushiftRight_xor_distrib,ih,bit_mul,xor4]
theorem tmsG_zero(n:Nat):∀a:Byte,tmsG n a 0#8=0#8:=by
 induction n with
 |zero=>intros;rfl
 |succ n ih=>intro a;rw [tmsG];simp [ih]
theorem tms_xb(a x y:Byte):tms a (x^^^y)=tms a x^^^tms a y:=tmsG_xb 8 a x y
def tmsF:Nat→Byte→Byte→Byte→Byte
 |0,_,_,s=>s
 |n+1,a,b,s=>tmsF n (dbl a) (b>>>1) (s^^^(a*(b&&&1#8)))
theorem tmsF_tmsG(n:Nat):∀a b s:Byte,tmsF n a b s=s^^^tmsG n a b:=by
 induction n with
 |zero=>intros;simp [tmsF,tmsG]
 |succ n ih=>intro a b s;rw [tmsF,ih,tmsG,BitVec.xor_assoc]
theorem tmsF_tms(a b:Byte):tmsF 8 a b 0#8=tms a b:=by rw [tmsF_tmsG];simp [tms]
theorem tmsF_end(n:Nat)(a s:Byte):tmsF n a 0#8 s=s:=by rw [tmsF_tmsG,tmsG_zero];simp
theorem xor_zero {x y:Byte}(h:x^^^y=0#8):x=y:=BitVec.xor_eq_zero_iff.1 h
/-! ### Powers -/
def gpow(a:Byte):Nat→Byte
 |0=>1#8
 |n+1=>tms (gpow a n) a
def pwS:Nat→Byte→Byte→Nat→Byte
 |0,out,_,_=>out
 |f+1,out,a,n=>pwS f (if n%2=1 then tms out a else out) (tms a a) (n/2)
def inv(a:Byte):Byte:=pwS 8 1#8 a 254
/-! ### The reference's product: polynomials, and their rest -/
def sel(c:Bool)(x:BitVec 16):BitVec 16:=if c then x else 0#16
def rp(a b:Byte):Nat→BitVec 16
 |0=>0#16
 |k+1=>rp a b k^^^sel (b.getLsbD k) (a.setWidth 16<<<k)
def rr(p:BitVec 16):Nat→BitVec 16
 |0=>p
 |j+1=>rr p j^^^sel ((rr p j).getLsbD (14-j)) (283#16<<<(6-j))
def rtms(a b:Byte):Byte:=(rr (rp a b 8) 7).setWidth 8
/-! ### Boxes -/
def rotl8(x:Byte)(k:Nat):Byte:=(x<<<k)|||(x>>>(8-k))
def boxF(i:Byte):Nat→Byte
 |0=>99#8
 |k+1=>boxF i k^^^rotl8 i k
def sbox(a:Byte):Byte:=boxF (inv a) 5
def pws:Nat→Byte
 |0=>1#8
 |k+1=>pws k^^^dbl (pws k)
def putT(l:List Byte)(a b:Byte):List Byte:=setN (setN l a.toNat b) (256+b.toNat) a
def tabT:Nat→List Byte
 |0=>putT (zer 512) 0#8 (boxF 0#8 5)
 |k+1=>putT (tabT k) (pws k) (boxF (pws ((255-k)%255)) 5)
theorem putT_length(l:List Byte)(a b:Byte):(putT l a b).length=l.length:=by simp [putT]
theorem tabT_length(k:Nat):(tabT k).length=512:=by
 induction k with
 |zero=>simp [tabT,putT_length]
 |succ k ih=>rw [tabT,putT_length,ih]
def tabs:List Byte:=tabT 255
theorem tabs_length:tabs.length=512:=tabT_length 255
def bxTo(a:Byte):Byte:=nth tabs a.toNat
def bxBack(a:Byte):Byte:=nth tabs (256+a.toNat)
/-! ### The table, written out -/
def tabsL:List Byte:=[
 99#8,124#8,119#8,123#8,242#8,107#8,111#8,197#8,48#8,1#8,103#8,43#8,254#8,215#8,171#8,118#8,202#8,130#8,201#8,125#8,250#8,89#8,71#8,240#8,173#8,212#8,162#8,175#8,156#8,164#8,114#8,192#8,
 183#8,253#8,147#8,38#8,54#8,63#8,247#8,204#8,52#8,165#8,229#8,241#8,113#8,216#8,49#8,21#8,4#8,199#8,35#8,195#8,24#8,150#8,5#8,154#8,7#8,18#8,128#8,226#8,235#8,39#8,178#8,117#8,
 9#8,131#8,44#8,26#8,27#8,110#8,90#8,160#8,82#8,59#8,214#8,179#8,41#8,227#8,47#8,132#8,83#8,209#8,0#8,237#8,32#8,252#8,177#8,91#8,106#8,203#8,190#8,57#8,74#8,76#8,88#8,207#8,
 208#8,239#8,170#8,251#8,67#8,77#8,51#8,133#8,69#8,249#8,2#8,127#8,80#8,60#8,159#8,168#8,81#8,163#8,64#8,143#8,146#8,157#8,56#8,245#8,188#8,182#8,218#8,33#8,16#8,255#8,243#8,210#8,
 205#8,12#8,19#8,236#8,95#8,151#8,68#8,23#8,196#8,167#8,126#8,61#8,100#8,93#8,25#8,115#8,96#8,129#8,79#8,220#8,34#8,42#8,144#8,136#8,70#8,238#8,184#8,20#8,222#8,94#8,11#8,219#8,
 224#8,50#8,58#8,10#8,73#8,6#8,36#8,92#8,194#8,211#8,172#8,98#8,145#8,149#8,228#8,121#8,231#8,200#8,55#8,109#8,141#8,213#8,78#8,169#8,108#8,86#8,244#8,234#8,101#8,122#8,174#8,8#8,
 186#8,120#8,37#8,46#8,28#8,166#8,180#8,198#8,232#8,221#8,116#8,31#8,75#8,189#8,139#8,138#8,112#8,62#8,181#8,102#8,72#8,3#8,246#8,14#8,97#8,53#8,87#8,185#8,134#8,193#8,29#8,158#8,
 225#8,248#8,152#8,17#8,105#8,217#8,142#8,148#8,155#8,30#8,135#8,233#8,206#8,85#8,40#8,223#8,140#8,161#8,137#8,13#8,191#8,230#8,66#8,104#8,65#8,153#8,45#8,15#8,176#8,84#8,187#8,22#8,
 82#8,9#8,106#8,213#8,48#8,54#8,165#8,56#8,191#8,64#8,163#8,158#8,129#8,243#8,215#8,251#8,124#8,227#8,57#8,130#8,155#8,47#8,255#8,135#8,52#8,142#8,67#8,68#8,196#8,222#8,233#8,203#8,
 84#8,123#8,148#8,50#8,166#8,194#8,35#8,61#8,238#8,76#8,149#8,11#8,66#8,250#8,195#8,78#8,8#8,46#8,161#8,102#8,40#8,217#8,36#8,178#8,118#8,91#8,162#8,73#8,109#8,139#8,209#8,37#8,
 114#8,248#8,246#8,100#8,134#8,104#8,152#8,22#8,212#8,164#8,92#8,204#8,93#8,101#8,182#8,146#8,108#8,112#8,72#8,80#8,253#8,237#8,185#8,218#8,94#8,21#8,70#8,87#8,167#8,141#8,157#8,132#8,
 144#8,216#8,171#8,0#8,140#8,188#8,211#8,10#8,247#8,228#8,88#8,5#8,184#8,179#8,69#8,6#8,208#8,44#8,30#8,143#8,202#8,63#8,15#8,2#8,193#8,175#8,189#8,3#8,1#8,19#8,138#8,107#8,
 58#8,145#8,17#8,65#8,79#8,103#8,220#8,234#8,151#8,242#8,207#8,206#8,240#8,180#8,230#8,115#8,150#8,172#8,116#8,34#8,231#8,173#8,53#8,133#8,226#8,249#8,55#8,232#8,28#8,117#8,223#8,110#8,
 71#8,241#8,26#8,113#8,29#8,41#8,197#8,137#8,111#8,183#8,98#8,14#8,170#8,24#8,190#8,27#8,252#8,86#8,62#8,75#8,198#8,210#8,121#8,32#8,154#8,219#8,192#8,254#8,120#8,205#8,90#8,244#8,
 31#8,221#8,168#8,51#8,136#8,7#8,199#8,49#8,177#8,18#8,16#8,89#8,39#8,128#8,236#8,95#8,96#8,81#8,127#8,169#8,25#8,181#8,74#8,13#8,45#8,229#8,122#8,159#8,147#8,201#8,156#8,239#8,
 160#8,224#8,59#8,77#8,174#8,42#8,245#8,176#8,200#8,235#8,187#8,60#8,131#8,83#8,153#8,97#8,23#8,43#8,4#8,126#8,186#8,119#8,214#8,38#8,225#8,105#8,20#8,99#8,85#8,33#8,12#8,125#8]
theorem tabs_lit:tabs=tabsL:=by decide+kernel
theorem bxTo_lit(a:Byte):bxTo a=nth tabsL a.toNat:=by rw [bxTo,tabs_lit]
theorem bxBack_lit(a:Byte):bxBack a=nth tabsL (256+a.toNat):=by rw [bxBack,tabs_lit]
theorem back_to(a:Byte):bxBack (bxTo a)=a:=by rw [bxBack_lit,bxTo_lit];revert a;decide+kernel
def rbit(a:Byte)(k:Nat):Byte:=a>>>(k%8)%2#8
def rbx(i:Byte):Nat→Byte
 |0=>0#8
 |k+1=>rbx i k|||((rbit i k^^^rbit i (k+7)^^^rbit i (k+6)^^^rbit i (k+5)^^^rbit i (k+4)^^^rbit 99#8 k)<<<k)
end Go.Proofs.YtneacgpmjlocjaaGreatDoor
