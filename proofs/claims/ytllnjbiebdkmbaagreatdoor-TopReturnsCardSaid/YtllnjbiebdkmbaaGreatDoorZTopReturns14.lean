/-
  Texts of the program, walked, and plain ones. Conditions: those written in each theorem.
-/
import Derived.Test.YtllnjbiebdkmbaaGreatDoorZTopReturns0
import Derived.Test.YtllnjbiebdkmbaaGreatDoorZTopReturns5
import Derived.Test.YtllnjbiebdkmbaaGreatDoorZTopReturns4
import Derived.Test.YtllnjbiebdkmbaaGreatDoorZTopReturns13
import Derived.Test.YtllnjbiebdkmbaaGreatDoorZTopReturns8
import Derived.Test.YtllnjbiebdkmbaaGreatDoorZTopReturns3
set_option linter.unusedSimpArgs false
set_option linter.unusedVariables false
set_option maxHeartbeats 16000000
namespace Go.Proofs.YtllnjbiebdkmbaaGreatDoor
open Go Go.RowKit
set_option maxRecDepth 100000
section
variable {P:Program} {ops:Array Oper} {Q:Exit→Act→World→Prop} {rest:List Oper} {dst:Option Tmp} {ty:TypeId} {pos:String} {aft:Array Edge} {gd:Option (Nat×Bool)} {a:Act} {w0 w:World} {L:List Blk} {T e:TypeId}
theorem wq_bs0(hb:∀w,(Instr.buildSlice T 0 #[]).run P w= .ok (.slice (some ⟨w.heap.size,0,none⟩) 0 0) (w.alloc (.cells ([]:List Value).toArray e)))(hm:Own w0 w L)(hgd:Region.wanted (Oper.mk dst (.buildSlice T 0 #[]) ty pos aft gd) (yielded ops a.tmps)=true)(hr:∀g w',Own w0 w' (⟨g,e,[]⟩::L)→wpList P ops Q rest (a.put dst (.slice (some ⟨g,0,none⟩) 0 0)) w'):wpList P ops Q ((Oper.mk dst (.buildSlice T 0 #[]) ty pos aft gd)::rest) a w:=
 wpList_want hgd fun K hK=>by
   unfold Oper.wp execOp
   have h:=hb w
   simp [h,Sem.run_bind,Result.andThen_ok,Sem.run_pure]
   exact hK _ _ (hr _ _ (hm.alloc e []))
theorem wq_bs1c {u:Value}{x:Operand}(hb:∀w,(Instr.buildSlice T 1 #[(0,u)]).run P w= .ok (.slice (some ⟨w.heap.size,0,none⟩) 1 1) (w.alloc (.cells [u].toArray e)))(hm:Own w0 w L)(hgd:Region.wanted (Oper.mk dst (.buildSlice T 1 #[(0,x)]) ty pos aft gd) (yielded ops a.tmps)=true)(hx:a.eval x=u)(hr:∀g w',Own w0 w' (⟨g,e,[u]⟩::L)→wpList P ops Q rest (a.put dst (.slice (some ⟨g,0,none⟩) 1 1)) w'):wpList P ops Q ((Oper.mk dst (.buildSlice T 1 #[(0,x)]) ty pos aft gd)::rest) a w:=
 wpList_want hgd fun K hK=>by
   unfold Oper.wp execOp
   have h:=hb w
   simp [hx,h,Sem.run_bind,Result.andThen_ok,Sem.run_pure]
   exact hK _ _ (hr _ _ (hm.alloc e [u]))
end
theorem bs0_b(w:World):(Instr.buildSlice 22 0 #[]).run Tryz.prog w= .ok (.slice (some ⟨w.heap.size,0,none⟩) 0 0) (w.alloc (.cells ([]:List Value).toArray 5)):=by kernel_rfl
theorem slo_room0(g:Nat)(e:TypeId)(sz:Nat):SlO [⟨g,e,[]⟩] e sz (.slice (some ⟨g,0,none⟩) 0 0) 0 []:=SlO.room g e sz 0 [] (by simp) (by decide)
theorem cellsB {w:World}{p:Option Addr}{b:List Byte}(h:RdB w p b):∀(j:Nat)(u:Value),(b.map v8)[j]? =some u→∃a,p=some a∧w.cell? (a.add j)=some u:=by
 intro j u hj
 rw [List.getElem?_map]at hj
 obtain⟨x,hx,rfl⟩:=Option.map_eq_some_iff.1 hj
 obtain⟨hlt,hx'⟩:=List.getElem?_eq_some_iff.1 hx
 obtain⟨a,rfl⟩:=Option.isSome_iff_exists.1 (h.1 (by omega))
 refine⟨a,rfl, ?_⟩
 have:=h.2 j hlt
 simp only [Option.getD_some]at this
 rw [this,List.getD_eq_getElem?_getD,hx];rfl
theorem slo_bytes {w0 w:World}{M R:List Blk}{p:Option Addr}{n c:Nat}{e:TypeId}{l:List Byte}(h:SlO M e 1 (.slice p n c) n (l.map v8))(hm:Own w0 w (M++R)):RdB w p l∧n=l.length∧n≤c:=by
 have hl:=h.1
 rw [List.length_map,Nat.mul_one]at hl
 obtain⟨_,_,hv,hnc,_,h0,hcell⟩:=h.cells hm
 cases hv
 refine⟨⟨fun hp=>h0 (by omega),fun i hi=> ?_⟩,hl.symm,hnc⟩
 obtain⟨a,rfl,ha⟩:=hcell i (v8 (l.getD i 0)) (by rw [List.getElem?_map,List.getElem?_eq_getElem hi,List.getD_eq_getElem?_getD,List.getElem?_eq_getElem hi];rfl)
 exact ha
instance elemB:Elem Tryz.prog 5 1 1:=Elem.of (by kernel_rfl) (by omega)
def flv(n:Nat):Nat:=floatOfInt .f64 (n:Int)
def flOk(x N:Nat):Bool:=
 (FloatKind.f64.format.order (flv x) 0==some .gt||FloatKind.f64.format.order (flv x) 0==some .eq)&&
 (FloatKind.f64.format.order (flv x) (flv N)==some .lt||FloatKind.f64.format.order (flv x) (flv N)==some .eq)&&
 (floatToIntVal .f64 (flv x) .i64==some (x:Int))&&
 (FloatKind.f64.format.order (flv x) (flv x)==some .eq)
theorem fl_tiny:((List.range 32).all fun n=>flOk 0 (2*n)&&flOk n (2*n)&&flOk 0 32&&flOk n 32)=true:=by decide+kernel
structure FlIn (b n B N:Nat):Prop where
 ge:(FloatKind.f64.format.order b 0==some .gt||FloatKind.f64.format.order b 0==some .eq)=true
 le:(FloatKind.f64.format.order b B==some .lt||FloatKind.f64.format.order b B==some .eq)=true
 int:floatToIntVal .f64 b .i64=some (n:Int)
 eq:(FloatKind.f64.format.order b b==some .eq)=true
 of:floatOfInt .f64 (n:Int)=b
 up:floatOfInt .f64 (N:Int)=B
theorem flIn_of {x N:Nat}(h:flOk x N=true):FlIn (flv x) x (flv N) N:=by
 simp only [flOk,Bool.and_eq_true]at h
 exact⟨h.1.1.1,h.1.1.2,by simpa using h.1.2,h.2,rfl,rfl⟩
theorem fl_tiny_at(n:Nat)(h:n≤31):FlIn (flv 0) 0 (flv (2*n)) (2*n)∧FlIn (flv n) n (flv (2*n)) (2*n)∧FlIn (flv 0) 0 (flv 32) 32∧FlIn (flv n) n (flv 32) 32:=by
 have:=List.all_eq_true.1 fl_tiny n (by rw [List.mem_range];omega)
 simp only [Bool.and_eq_true]at this
 exact⟨flIn_of this.1.1.1,flIn_of this.1.1.2,flIn_of this.1.2,flIn_of this.2⟩
theorem conv_fi {b n:Nat}(h:floatToIntVal .f64 b .i64=some (n:Int))(w:World):(convert 213 3 (.float .f64 b)).run Tryz.prog w= .ok (.int .i64 (n:Int)) w:=run_convert_float_int w _ _ _ _ _ _ (by kernel_rfl) (by kernel_rfl) h
theorem conv_if {b n:Nat}(h:floatOfInt .f64 (n:Int)=b)(w:World):(convert 3 213 (.int .i64 (n:Int))).run Tryz.prog w= .ok (.float .f64 b) w:=h ▸ run_convert_int_float w _ _ _ _ _ (by kernel_rfl) (by kernel_rfl)
theorem fits_any(b n B N g:Nat)(h:FlIn b n B N)(w:World)(hc:w.cell? ⟨g,0,none⟩=some (.int .i64 (N:Int))):Calls Tryz.prog 141 #[.float .f64 b, .pointer (some ⟨g,0,none⟩)] w fun e w'=>e= .returned (.bool true)∧w'=w:=by
 have h1:=h.ge
 have h2:=h.le
 have h4:=h.eq
 have h3:=conv_fi h.int
 have h5:=conv_if h.of
 have h6:=conv_if h.up
 clear h
 go_enter Tryz.func141,Tryz.ntmps141
 go_wp2
 go_ret
 exact⟨rfl,rfl⟩
theorem own_cell {w0 w:World}{L:List Blk}{g:Nat}{t:TypeId}{v:Value}(hm:Own w0 w L)(hh:Has L ⟨g,t,[v]⟩):w.cell? ⟨g,0,none⟩=some v:=row_cell (hm.row hh) 0
theorem whole_any(b n c m B N:Nat)(hn:FlIn b n B N)(hk:FlIn c m B N)(h:n+m≤N)(hN:N≤9223372036854775807)(w0:World):Calls Tryz.prog 132 #[.complex .f64 b c, .int .i64 (N:Int)] w0 fun e w'=>e= .returned (.tuple #[.int .i64 (n:Int), .int .i64 (m:Int), .bool true])∧Ext w0 w':=by
 have hm:=Own.start w0
 have F1:=Lib.hid fun g w hc=>fits_any b n B N g hn w hc
 have F2:=Lib.hid fun g w hc=>fits_any c m B N g hk w hc
 have h3:=conv_fi hn.int
 have h4:=conv_fi hk.int
 have h5:decide ((N:Int)-(n:Int)<(m:Int))=false:=decide_eq_false (by omega)
 have h6:¬((N:Int)-(n:Int)<(m:Int)):=by omega
 have h7:(N:Int)-(n:Int)≤9223372036854775807:=by omega
 have h8: -9223372036854775808≤(N:Int)-(n:Int):=by omega
 clear hn hk
 go_enter Tryz.func132,Tryz.ntmps132
 go_wp2_with (first|(go_at_call 141;have hc_:=own_cell (g:=g1) (t:=3) (v:= .int .i64 (N:Int)) hm Has.hd;(with_reducible refine(F1.out g1 _ hc_).mono ?_);rintro e_ w_ ⟨rfl,rfl⟩;clear hc_)|(go_at_call 141;have hc_:=own_cell (g:=g1) (t:=3) (v:= .int .i64 (N:Int)) hm Has.hd;(with_reducible refine(F2.out g1 _ hc_).mono ?_);rintro e_ w_ ⟨rfl,rfl⟩;clear hc_)|((with_reducible show qLd);first|((with_reducible apply wq_ld1 hm);exact rfl;infer_instance;exact rfl;(focus ((repeat (first|exact .hd|assumption|apply Has.tl|apply Has.app));done));exact rfl))|((first|((with_reducible show qBx);first|((with_reducible apply wq_box1 hm);exact rfl;exact rfl;exact rfl)));clear hm;(first|(have hx_:=g1;clear hx_;intro gx_)|intro g1);intro w hm))
 go_ret3
 exact⟨rfl,hm.x⟩
theorem eq_nil8(q:Option Addr)(n c:Nat)(w:World):(binOp .eql 22 (.slice q n c) (.slice none 0 0)).run Tryz.prog w= .ok (.bool q.isNone) w:=by
 have h:=run_equal_slice_nil (P:=Tryz.prog) (w:=w) 22 5 q n c (by kernel_rfl)
 simp [binOp,h]
def slP(p:Option Addr)(c l:Nat):Option Addr:=if c=l then p else p.map (·.add l)
theorem addr_zero(a:Addr):a.add 0=a:=by unfold Addr.add;split<;>simp_all
section
variable {P:Program} {ops:Array Oper} {Q:Exit→Act→World→Prop} {rest:List Oper} {dst:Option Tmp} {ty:TypeId} {pos:String} {aft:Array Edge} {gd:Option (Nat×Bool)} {a:Act} {w:World} {T e:TypeId} {x y z:Operand}
theorem run_slL(hT:P.underlying T=some (.slice e))[hE:One1 P e](p:Option Addr)(n c l:Nat)(hl:l≤n)(w:World):(Instr.sliceAt T (.slice p n c) (some (.int .i64 (l:Int))) none none).run P w= .ok (.slice (slP p c l) (n-l) (c-l)) w:=by
 obtain⟨i,hi1,hi2⟩:=Option.map_eq_some_iff.1 hE.size
 simp [Instr.sliceAt,Instr.slice,Instr.sliceBounds,Instr.sliceBound,asIntOf,Sem.run_bind,run_underlying hT,sizeOf,typeInfo,hi1,hi2,hl,slP]
theorem run_slH(hT:P.underlying T=some (.slice e))[hE:One1 P e](p:Option Addr)(n c h:Nat)(hh:h≤c)(w:World):(Instr.sliceAt T (.slice p n c) none (some (.int .i64 (h:Int))) none).run P w= .ok (.slice p h c) w:=by
 obtain⟨i,hi1,hi2⟩:=Option.map_eq_some_iff.1 hE.size
 simp [Instr.sliceAt,Instr.slice,Instr.sliceBounds,Instr.sliceBound,asIntOf,Sem.run_bind,run_underlying hT,sizeOf,typeInfo,hi1,hi2,hh]
 intro _
 cases p<;>simp [addr_zero]
theorem run_slLH(hT:P.underlying T=some (.slice e))[hE:One1 P e](p:Option Addr)(n c l h:Nat)(hl:l≤h)(hh:h≤c)(w:World):(Instr.sliceAt T (.slice p n c) (some (.int .i64 (l:Int))) (some (.int .i64 (h:Int))) none).run P w= .ok (.slice (slP p c l) (h-l) (c-l)) w:=by
 obtain⟨i,hi1,hi2⟩:=Option.map_eq_some_iff.1 hE.size
 simp [Instr.sliceAt,Instr.slice,Instr.sliceBounds,Instr.sliceBound,asIntOf,Sem.run_bind,run_underlying hT,sizeOf,typeInfo,hi1,hi2,hl,hh,slP]
theorem gq_slL {p:Option Addr}{n c l r:Nat}(hT:P.underlying T=some (.slice e))(hE:One1 P e)(hx:a.eval x= .slice p n c)(hy:a.eval y= .int .i64 (l:Int))(hl:l≤n)(hr:n-l=r):gives P w (Is (.slice (slP p c l) r (c-l))) ((execOp a.eval (Oper.mk dst (.slice T x (some y) none none) ty pos aft gd)).run P w):=by
 subst hr
 unfold execOp
 simp only [hx,hy,Sem.run_bind,run_slL hT p n c l hl w,Result.andThen_ok,Sem.run_pure,Option.map_some,Option.map_none]
 exact gives_same
theorem gq_slLH {p:Option Addr}{n c l h r:Nat}(hT:P.underlying T=some (.slice e))(hE:One1 P e)(hx:a.eval x= .slice p n c)(hy:a.eval y= .int .i64 (l:Int))(hz:a.eval z= .int .i64 (h:Int))(hl:l≤h)(hh:h≤c)(hr:h-l=r):gives P w (Is (.slice (slP p c l) r (c-l))) ((execOp a.eval (Oper.mk dst (.slice T x (some y) (some z) none) ty pos aft gd)).run P w):=by
 subst hr
 unfold execOp
 simp only [hx,hy,hz,Sem.run_bind,run_slLH hT p n c l h hl hh w,Result.andThen_ok,Sem.run_pure,Option.map_some,Option.map_none]
 exact gives_same
theorem wq_slL {p:Option Addr}{n c l r:Nat}(hT:P.underlying T=some (.slice e))(hE:One1 P e)(hgd:Region.wanted (Oper.mk dst (.slice T x (some y) none none) ty pos aft gd) (yielded ops a.tmps)=true)(hx:a.eval x= .slice p n c)(hy:a.eval y= .int .i64 (l:Int))(hl:l≤n)(hr:n-l=r)(hk:wpList P ops Q rest (a.put dst (.slice (slP p c l) r (c-l))) w):wpList P ops Q ((Oper.mk dst (.slice T x (some y) none none) ty pos aft gd)::rest) a w:=
 wpList_want hgd fun K hK=>by
   subst hr
   unfold Oper.wp execOp
   simp only [hx,hy,Sem.run_bind,run_slL hT p n c l hl w,Result.andThen_ok,Sem.run_pure,Option.map_some,Option.map_none]
   exact hK _ _ hk
theorem wq_slH {p:Option Addr}{n c h:Nat}(hT:P.underlying T=some (.slice e))(hE:One1 P e)(hgd:Region.wanted (Oper.mk dst (.slice T x none (some y) none) ty pos aft gd) (yielded ops a.tmps)=true)(hx:a.eval x= .slice p n c)(hy:a.eval y= .int .i64 (h:Int))(hh:h≤c)(hk:wpList P ops Q rest (a.put dst (.slice p h c)) w):wpList P ops Q ((Oper.mk dst (.slice T x none (some y) none) ty pos aft gd)::rest) a w:=
 wpList_want hgd fun K hK=>by
   unfold Oper.wp execOp
   simp only [hx,hy,Sem.run_bind,run_slH hT p n c h hh w,Result.andThen_ok,Sem.run_pure,Option.map_some,Option.map_none]
   exact hK _ _ hk
theorem wq_slLH {p:Option Addr}{n c l h r:Nat}(hT:P.underlying T=some (.slice e))(hE:One1 P e)(hgd:Region.wanted (Oper.mk dst (.slice T x (some y) (some z) none) ty pos aft gd) (yielded ops a.tmps)=true)(hx:a.eval x= .slice p n c)(hy:a.eval y= .int .i64 (l:Int))(hz:a.eval z= .int .i64 (h:Int))(hl:l≤h)(hh:h≤c)(hr:h-l=r)(hk:wpList P ops Q rest (a.put dst (.slice (slP p c l) r (c-l))) w):wpList P ops Q ((Oper.mk dst (.slice T x (some y) (some z) none) ty pos aft gd)::rest) a w:=
 wpList_want hgd fun K hK=>by
   subst hr
   unfold Oper.wp execOp
   simp only [hx,hy,hz,Sem.run_bind,run_slLH hT p n c l h hl hh w,Result.andThen_ok,Sem.run_pure,Option.map_some,Option.map_none]
   exact hK _ _ hk
end
theorem RdB.slL {w:World}{p:Option Addr}{L:List Byte}(h:RdB w p L)(c l:Nat)(hc:L.length≤c):RdB w (slP p c l) (L.drop l):=by
 unfold slP
 by_cases e:c=l
 · have:L.drop l=[]:=List.drop_eq_nil_of_le (by omega)
   rw [this];exact RdB.nil _ _
 · rw [if_neg e]
   cases p with
   | none=>
     have:L=[]:=RdB.none h
     subst this
     rw [List.drop_nil];exact RdB.nil _ _
   | some a=>
     refine⟨fun _=>rfl,fun i hi=> ?_⟩
     rw [List.length_drop]at hi
     have e:(a.add l).add i=a.add (l+i):=by unfold Addr.add;split<;>split<;>simp_all<;>omega
     simp only [Option.map,Option.getD_some,e]
     have:=h.2 (l+i) (by omega)
     simp only [Option.getD_some]at this
     rw [this];simp [List.getElem?_drop]
theorem RdB.slLH {w:World}{p:Option Addr}{L:List Byte}(h:RdB w p L)(c l k:Nat)(hc:L.length≤c):RdB w (slP p c l) ((L.drop l).take k):=(h.slL c l hc).take k
theorem right15_any(key:List Byte)(p:Option Addr)(c:Nat)(w:World):Calls Tryz.prog 24 #[.slice p key.length c] w fun e w'=>e= .returned (.bool (rightL key))∧w=w':=by
 by_cases h0:0<key.length
 · have a1:decide ((0:Int)<(key.length:Int))=true:=decide_eq_true (by omega)
   have a2:(0:Int)<(key.length:Int):=by omega
   have e1:decide (0<key.length)=true:=decide_eq_true h0
   by_cases h1:key.length≤128
   · have a3:decide ((key.length:Int)≤128)=true:=decide_eq_true (by omega)
     have a4:(key.length:Int)≤128:=by omega
     have e:Hid (rightL key=true):=Lib.hid (by rw [rightL,e1,decide_eq_true h1];rfl)
     rw [e.out]
     clear e1
     go_enter Tryz.func24,Tryz.ntmps24
     go_wp2
     go_ret
     exact⟨rfl,rfl⟩
   · have a3:decide ((key.length:Int)≤128)=false:=decide_eq_false (by omega)
     have a4:¬(key.length:Int)≤128:=by omega
     have e:Hid (rightL key=false):=Lib.hid (by rw [rightL,e1,decide_eq_false h1];rfl)
     rw [e.out]
     clear e1
     go_enter Tryz.func24,Tryz.ntmps24
     go_wp2
     go_ret
     exact⟨rfl,rfl⟩
 · have e:rightL key=false:=by rw [rightL,decide_eq_false h0];rfl
   rw [e]
   have a2:key.length=0:=by omega
   rw [a2]
   go_enter Tryz.func24,Tryz.ntmps24
   go_wp2
   go_ret
   exact⟨rfl,rfl⟩
theorem Own.join {w0 w w':World}{L M:List Blk}(h:Own w0 w L)(k:Own w w' M):Own w0 w' (M++L):=
 ⟨h.1.trans k.1,by
   rw [List.map_append,List.nodup_append]
   refine⟨k.2.1,h.2.1,fun a ha b hb e=> ?_⟩
   obtain⟨x,hx,rfl⟩:=List.mem_map.1 ha
   obtain⟨y,hy,rfl⟩:=List.mem_map.1 hb
   have h1:=(k.2.2 x hx).1
   have h2:=h.lt y hy
   omega,fun b hb=>by
   rcases List.mem_append.1 hb with hb|hb
   · exact⟨Nat.le_trans h.1.size (k.2.2 b hb).1,(k.2.2 b hb).2⟩
   · exact⟨(h.2.2 b hb).1,row_ext (h.2.2 b hb).2 k.1⟩⟩
theorem Own.rdK {w0 w:World}{L:List Blk}{g:Nat}{e:TypeId}{ks:List (List Byte)}(hm:Own w0 w L)(hh:Has L ⟨g,e,catV ks⟩)(hk:∀k∈ks,k.length=16):RdK w (some ⟨g,0,none⟩) 16 ks:=⟨hk,RdB.of_row (hm.row hh)⟩
theorem RdR.row {w:World}{p:Option Addr}{ls:List (List Byte)}(h:RdR w p ls)(k:Nat)(hk:k<ls.length):∃a:Addr,p=some a∧∃(q:Option Addr)(c:Nat),w.cell? (a.add k)=some (.slice q (ls.getD k []).length c)∧RdB w q (ls.getD k [])∧(ls.getD k []).length≤c∧(ls.getD k []).length≤maxLen:=by
 obtain⟨a,rfl⟩:=Option.isSome_iff_exists.1 (h.1 (by omega))
 exact⟨a,rfl,h.2 k hk⟩
theorem clone_own(l:List Byte)(p:Option Addr)(c:Nat)(w0:World)(hl:RdB w0 p l)(hb:l.length≤70368744177000):Calls Tryz.prog 34 #[.slice p l.length c] w0 fun e w'=>∃v M,e= .returned v∧Own w0 w' (M++[])∧SlO M 5 1 v l.length (l.map v8):=by
 have hm:=Own.start w0
 cases p with
 | none=>
   have e1:=fun c w=>eq_nil8 none 0 c w
   obtain rfl:l=[]:=by
     rcases Nat.eq_zero_or_pos l.length with h|h
     · exact List.length_eq_zero_iff.1 h
     · have:=hl.1 h;simp at this
   clear hl
   simp only [List.length_nil]
   go_enter Tryz.func34,Tryz.ntmps34
   go_wp2
   go_ret
   exact⟨_,[],rfl,hm,SlO.nil _ _⟩
 | some a=>
   have HL:=Lib.hid hl
   have FIT:=Lib.hid (show(0+l.length)*(1+1)≤140737488355328 by omega)
   have LY:=Lib.hid (show(l.map v8).length=l.length*1 by simp)
   clear hl
   have e1:=fun n c w=>eq_nil8 (some a) n c w
   go_enter Tryz.func34,Tryz.ntmps34
   go_wp2_with (first|((with_reducible apply wq_bs0 bs0_b hm);exact rfl;clear hm;intro gz w hm)|((with_reducible show wpList _ _ _ (Oper.mk _ (Op.call _) _ _ _ _::_) _ _);refine wplO_app (M:=[⟨gz,5,[]⟩]) (R:=[]) (ds:=l.map v8) hm (slo_room0 gz _ 1) rfl rfl rfl rfl Tryz.underlying22 LY.out (cellsB (HL.out.ext hm.x)) (one_map _) FIT.out ?_;clear hm;intro v1 w M1 hm hs1;obtain⟨p_v1,c_v1,rfl⟩:=hs1.form;simp only [Nat.zero_add,List.nil_append]at hs1⊢))
   go_ret
   exact⟨_,M1,rfl,hm,hs1⟩
theorem of_own(l:List Byte)(p:Option Addr)(d:Nat)(b n c k B:Nat)(hn:FlIn b n B l.length)(hk:FlIn c k B l.length)(h:n+k≤l.length)(hd:l.length≤d)(hb:l.length≤70368744177000)(w0:World)(hl:RdB w0 p l):
   Calls Tryz.prog 124 #[.slice p l.length d, .complex .f64 b c] w0 fun e w'=>∃v M,e= .returned (.tuple #[v, .bool true])∧Own w0 w' (M++[])∧SlO M 5 1 v k (((l.drop n).take k).map v8):=by
 have hm:=Own.start w0
 have W1:=Lib.hid fun w=>whole_any b n c k B l.length hn hk h (by omega) w
 have lT:((l.drop n).take k).length=k:=by rw [List.length_take,List.length_drop];omega
 have C1:=Lib.hid fun (w:World)(hx:Ext w0 w)=>show Calls Tryz.prog 34 #[.slice (slP p d n) k (d-n)] w fun e w'=>∃v M,e= .returned v∧Own w w' (M++[])∧SlO M 5 1 v k (((l.drop n).take k).map v8)from by
   have:=clone_own ((l.drop n).take k) (slP p d n) (d-n) w ((hl.ext hx).slLH d n k hd) (by omega)
   rwa [lT]at this
 obtain⟨T,hT⟩:∃x,x=(l.drop n).take k:=⟨_,rfl⟩
 rw [←hT]at C1⊢
 have a1:(n:Int)+(k:Int)≤9223372036854775807:=by omega
 have a2:(0:Int)≤(n:Int)+(k:Int):=by omega
 have hkd:n+k≤d:=by omega
 clear hn hk hl hT lT
 go_enter Tryz.func124,Tryz.ntmps124
 go_wp2_with (first|(go_at_call 132;(with_reducible refine(W1.out _).mono ?_);rintro e_ w ⟨rfl,hx_⟩;replace hm:=hm.ext hx_;clear hx_)|((with_reducible apply wq_slLH (l:=n) (h:=n+k) (r:=k) Tryz.underlying22);infer_instance;exact rfl;exact rfl;exact rfl;exact rfl;exact(by omega);exact hkd;exact(by omega))|(go_at_call 34;(with_reducible refine(C1.out _ hm.x).mono ?_);rintro e_ w ⟨v_,M_,rfl,hm1,hs_⟩;replace hm:=hm1.rebase hm.x;clear hm1))
 go_ret2
 exact⟨_,M_,rfl,hm,hs_⟩
theorem fl_16:((List.range 400).all fun n=>flOk 0 (n+16)&&flOk n (n+16)&&flOk 16 (n+16))=true:=by decide+kernel
theorem flv_0:flv 0=0:=by decide+kernel
theorem flv_16:flv 16=4625196817309499392:=by decide+kernel
theorem fl_16_at(n:Nat)(h:n<400):FlIn 0 0 (flv (n+16)) (n+16)∧FlIn (flv n) n (flv (n+16)) (n+16)∧FlIn 4625196817309499392 16 (flv (n+16)) (n+16):=by
 have:=List.all_eq_true.1 fl_16 n (by rw [List.mem_range];omega)
 simp only [Bool.and_eq_true]at this
 exact⟨flv_0 ▸ flIn_of this.1.1,flIn_of this.1.2,flv_16 ▸ flIn_of this.2⟩
abbrev P64(l:List (BitVec 64)):Value:= .agg (l.map v64).toArray
abbrev P32(l:List (BitVec 32)):Value:= .agg (l.map v32).toArray
def cr1(V:List (BitVec 64))(c:BitVec 64)(i:Nat):List (BitVec 64):=setN V i (nth V i+c)
def cr2(V:List (BitVec 64))(i:Nat):List (BitVec 64):=setN V i (nth V i&&&67108863#64)
def crF(l:List (BitVec 64)):Nat→List (BitVec 64)×BitVec 64
 |0=>(l,0#64)
 |i+1=>(cr2 (cr1 (crF l i).1 (crF l i).2 i) i,nth (cr1 (crF l i).1 (crF l i).2 i) i>>>26)
theorem crF_length(l:List (BitVec 64))(i:Nat):(crF l i).1.length=l.length:=by
 induction i with
 |zero=>rfl
 |succ i ih=>rw [crF,cr2,cr1,setN_length,setN_length,ih]
def carL(l:List (BitVec 64)):List (BitVec 64):=setN (crF l 5).1 0 (nth (crF l 5).1 0+5#64*(crF l 5).2)
theorem carL_length(l:List (BitVec 64)):(carL l).length=l.length:=by rw [carL,setN_length,crF_length]
theorem carried_any(l:List (BitVec 64))(hl:l.length=5)(w0:World):Gives Tryz.prog 152 #[P64 l] w0 (P64 (carL l)):=by
 unfold Gives
 have hm:=Own.start w0
 have HL:=Lib.hid fun i=>(show(crF l i).1.length=5 from by rw [crF_length];exact hl)
 have EC:=Lib.hid (show carL l=setN (crF l 5).1 0 (nth (crF l 5).1 0+5#64*(crF l 5).2)from rfl)
 have h1:=Nat.le_of_eq hl
 have h2:=Nat.le_of_eq hl.symm
 have lC:=carL_length l
 rw [hl]at lC
 have C0:Hid ((crF l 0).1=l∧(crF l 0).2=0#64):=Lib.hid ⟨rfl,rfl⟩
 clear hl
 go_enter Tryz.func152,Tryz.ntmps152
 go_wp2_with (first|((first|((with_reducible show qAl);first|((with_reducible apply wq_new hm);exact rfl;infer_instance))|((with_reducible show qBx);first|((with_reducible apply wq_boxN hm);exact rfl;exact rfl)));clear hm;(first|(have hx_:=g1;clear hx_;(first|(have hx_:=g2;clear hx_;intro gx_)|intro g2))|intro g1);intro w hm))
 go_loopw [3,5] (fun c i wr=>∃k:Nat,k≤5∧i= .int .i64 k∧c=v64 (crF l k).2∧Own w0 wr [⟨g2,237,(zer (n:=64) 5).map v64⟩,⟨g1,237,(crF l k).1.map v64⟩]) (fun _ i _=>5-(intOf i).toNat)
 case atStart=>exact⟨0,by omega,rfl,rfl,hm⟩
 case round=>
   obtain⟨k,hk,rfl,rfl,hm⟩:=hrel
   have lV:=HL.out k
   by_cases hlt:k<5
   · have hd:decide ((k:Int)<5)=true:=decide_eq_true (by omega)
     have hd2:(k:Int)<5:=by omega
     have E1:Hid ((crF l (k+1)).1=cr2 (cr1 (crF l k).1 (crF l k).2 k) k):=Lib.hid rfl
     have E2:Hid ((crF l (k+1)).2=nth (cr1 (crF l k).1 (crF l k).2 k) k>>>26):=Lib.hid rfl
     generalize (crF l k).1=V at*
     generalize (crF l k).2=C at*
     go_wp2_with (first|((with_reducible show qLd);first|((with_reducible apply wq_ldv hm);exact rfl;infer_instance;exact rfl;(focus (repeat first|exact .hd|assumption|apply Has.tl);done);(focus (first|omega|(simp;omega)|(refine ltB ?_;first|omega|(simp;done)|(simp;omega))))))|((((with_reducible show qSt);first|((with_reducible apply wq_stv hm);exact rfl;infer_instance;exact rfl;(focus (repeat first|exact .hd|assumption|apply Swap.tl);done);infer_instance;exact rfl;(focus (first|omega|(simp;omega)|(refine ltB ?_;first|omega|(simp;done)|(simp;omega)))))));clear hm;intro w hm))
     go_roundw
     case rel=>exact⟨k+1,by omega,by go_num,by rw [E2.out];rfl,by rw [E1.out];exact hm⟩
     case measure=>simp [intOf]<;>omega
   · obtain rfl:k=5:=by omega
     have hd:decide (((5:Nat):Int)<5)=false:=decide_eq_false (by omega)
     go_wp2_with (first|((with_reducible show qLd);first|((with_reducible apply wq_ldv hm);exact rfl;infer_instance;exact rfl;(focus (repeat first|exact .hd|assumption|apply Has.tl);done);(focus (first|omega|(simp;omega)|(refine ltB ?_;first|omega|(simp;done)|(simp;omega)))))|((with_reducible apply wq_ldW hm);exact rfl;infer_instance;exact rfl;(focus (repeat first|exact .hd|assumption|apply Has.tl);done);(focus (first|rfl|omega|(simp;done)|(simp;omega)))))|((((with_reducible show qSt);first|((with_reducible apply wq_stv hm);exact rfl;infer_instance;exact rfl;(focus (repeat first|exact .hd|assumption|apply Swap.tl);done);infer_instance;exact rfl;(focus (first|omega|(simp;omega)|(refine ltB ?_;first|omega|(simp;done)|(simp;omega)))))|((with_reducible apply wq_stW hm);exact rfl;infer_instance;exact rfl;exact rfl;(focus (repeat first|exact .hd|assumption|apply Swap.tl);done);(focus (first|rfl|omega|(simp;done)|(simp;omega)));(focus (first|rfl|omega|(simp;done)|(simp;omega)));(focus (first|exact one_map _|(simp [one8,one32,one64];done))))));clear hm;intro w hm))
     replace hm:Own w0 w [⟨g2,237,(setN (crF l 5).1 0 (nth (crF l 5).1 0+5#64*(crF l 5).2)).map v64⟩,⟨g1,237,(setN (crF l 5).1 0 (nth (crF l 5).1 0+5#64*(crF l 5).2)).map v64⟩]:=hm
     rw [←EC.out]at hm
     refine rtO hm rfl rfl (hR:=⟨rfl,hm.x⟩)
def looL(l:List (BitVec 32)):List (BitVec 64):=tab 5 fun i=>(nth l i).setWidth 64
theorem looL_length(l:List (BitVec 32)):(looL l).length=5:=tab_length
theorem ploose_any(l:List (BitVec 32))(hl:l.length=5)(w0:World):Gives Tryz.prog 153 #[P32 l] w0 (P64 (looL l)):=by
 unfold Gives
 have hm:=Own.start w0
 have h1:=Nat.le_of_eq hl
 have h2:=Nat.le_of_eq hl.symm
 clear hl
 go_enter Tryz.func153,Tryz.ntmps153
 go_wp2_with (first|((first|((with_reducible show qAl);first|((with_reducible apply wq_new hm);exact rfl;infer_instance))|((with_reducible show qBx);first|((with_reducible apply wq_boxN hm);exact rfl;exact rfl)));clear hm;(first|(have hx_:=g1;clear hx_;(first|(have hx_:=g2;clear hx_;(first|(have hx_:=g3;clear hx_;intro gx_)|intro g3))|intro g2))|intro g1);intro w hm))
 go_loopw [5] (fun i wr=>∃k:Nat,k≤5∧i= .int .i64 k∧Own w0 wr [⟨g3,237,(part (n:=64) 5 k (fun i=>(nth l i).setWidth 64) fun _=>0).map v64⟩,⟨g2,237,(zer (n:=64) 5).map v64⟩,⟨g1,228,l.map v32⟩]) (fun i _=>5-(intOf i).toNat)
 case atStart=>exact⟨0,by omega,rfl,by rw [←zer_start];exact hm⟩
 case round=>
   obtain⟨k,hk,rfl,hm⟩:=hrel
   by_cases hlt:k<5
   · have hd:decide ((k:Int)<5)=true:=decide_eq_true (by omega)
     have hd2:(k:Int)<5:=by omega
     go_wp2_with (first|((with_reducible show qLd);first|((with_reducible apply wq_ldv hm);exact rfl;infer_instance;exact rfl;(focus (repeat first|exact .hd|assumption|apply Has.tl);done);(focus (first|omega|(simp;omega)|(refine ltB ?_;first|omega|(simp;done)|(simp;omega))))))|((((with_reducible show qSt);first|((with_reducible apply wq_stv hm);exact rfl;infer_instance;exact rfl;(focus (repeat first|exact .hd|assumption|apply Swap.tl);done);infer_instance;exact rfl;(focus (first|omega|(simp;omega)|(refine ltB ?_;first|omega|(simp;done)|(simp;omega)))))));clear hm;intro w hm))
     go_roundw
     case rel=>
       rw [part_set' hlt rfl]at hm
       exact⟨k+1,by omega,by go_num,hm⟩
     case measure=>simp [intOf]<;>omega
   · obtain rfl:k=5:=by omega
     have hd:decide (((5:Nat):Int)<5)=false:=decide_eq_false (by omega)
     rw [part_all]at hm
     go_wp2_with (first|((with_reducible show qLd);first|((with_reducible apply wq_ldW hm);exact rfl;infer_instance;exact rfl;(focus (repeat first|exact .hd|assumption|apply Has.tl);done);(focus (first|rfl|omega|(simp;done)|(simp;omega)))))|((((with_reducible show qSt);first|((with_reducible apply wq_stW hm);exact rfl;infer_instance;exact rfl;exact rfl;(focus (repeat first|exact .hd|assumption|apply Swap.tl);done);(focus (first|rfl|omega|(simp;done)|(simp;omega)));(focus (first|rfl|omega|(simp;done)|(simp;omega)));(focus (first|exact one_map _|(simp [one8,one32,one64];done))))));clear hm;intro w hm))
     refine rtO hm rfl rfl (hR:=⟨rfl,hm.x⟩)
theorem run_part_v64 {P:Program}(w:World)(e:TypeId)(k:IntKind)(he:P.underlying e=some (.int k))(l:List (BitVec 64))(i:Nat)(hi:i<l.length):(Go.part e (l.map v64).toArray i).run P w= .ok (v64 (l.getD i 0)) w:=by
 simp [Go.part,isAgg,run_underlying he,hi]
theorem eq_loop64(P:Program)(w:World)(f:Nat→Option Bool×Unit→Sem (ForInStep (Option Bool×Unit)))(l m:List (BitVec 64))(n:Nat)(hl:l.length=n)(hm:m.length=n)
   (hf:∀i s,i<n→(f i s).run P w= .ok (if l.getD i 0==m.getD i 0 then .yield (none,())else .done (some false,())) w):
   ∀k a,a+k=n→(forIn (List.range' a k) ((none:Option Bool),()) f).run P w= .ok (if l.drop a==m.drop a then(none,())else(some false,())) w:=by
 intro k
 induction k with
 | zero=>
   intro a ha
   have e1:l.drop a=[]:=List.drop_eq_nil_of_le (by omega)
   have e2:m.drop a=[]:=List.drop_eq_nil_of_le (by omega)
   rw [e1,e2]
   simp
 | succ k ih=>
   intro a ha
   have hla:a<l.length:=by omega
   have hma:a<m.length:=by omega
   simp only [List.range'_succ,List.forIn_cons,Sem.run_bind,hf a _ (by omega)]
   have e1:l.drop a=l.getD a 0::l.drop (a+1):=by rw [List.drop_eq_getElem_cons hla];simp [hla]
   have e2:m.drop a=m.getD a 0::m.drop (a+1):=by rw [List.drop_eq_getElem_cons hma];simp [hma]
   rw [e1,e2]
   by_cases h:l.getD a 0=m.getD a 0
   · rw [h]
     have:=ih (a+1) (by omega)
     simp only [beq_self_eq_true,if_true,Result.andThen_ok,this]
     simp
   · have hb:(l.getD a 0==m.getD a 0)=false:=by simpa using h
     rw [hb]
     have hc:(l.getD a 0::l.drop (a+1)==m.getD a 0::m.drop (a+1))=false:=by
       rw [beq_eq_false_iff_ne];intro e;exact h (List.cons.inj e).1
     rw [hc]
     simp only [Result.andThen_ok,Bool.false_eq_true,if_false,Sem.run_pure]
theorem run_equalIn_64s {P:Program}(w:World)(d:Nat)(T e:TypeId)(n:Nat)(l m:List (BitVec 64))(hT:P.underlying T=some (.array n e))(he:P.underlying e=some (.int .u64))(hs:(P.info? e).map (·.size)=some 1)(hl:l.length=n)(hm:m.length=n):
   (Op.equalIn (d+2) T (.agg (l.map v64).toArray) (.agg (m.map v64).toArray)).run P w= .ok (l==m) w:=by
 obtain⟨i,hi1,hi2⟩:=Option.map_eq_some_iff.1 hs
 rw [Op.equalIn]
 simp only [Sem.run_bind,run_underlying hT,Result.andThen_ok,sizeOf,typeInfo,run_program,hi1,Sem.run_pure,hi2,Std.Legacy.Range.forIn_eq_forIn_range',Nat.mul_one,Std.Legacy.Range.size,Nat.sub_zero,Nat.add_sub_cancel,Nat.div_one]
 rw [eq_loop64 P w _ l m n hl hm ?hf n 0 (by omega)]
 case hf=>
   intro j s hj
   simp only [Sem.run_bind,run_part_v64 w e .u64 he l j (by omega),run_part_v64 w e .u64 he m j (by omega),Result.andThen_ok]
   rw [run_equalIn64 e _ _ P w d .u64 he]
   cases l.getD j 0==m.getD j 0<;>simp
 · simp only [List.drop_zero]
   cases l==m<;>simp
end Go.Proofs.YtllnjbiebdkmbaaGreatDoor
