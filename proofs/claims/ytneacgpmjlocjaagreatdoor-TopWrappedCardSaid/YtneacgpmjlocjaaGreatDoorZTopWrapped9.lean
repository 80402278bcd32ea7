/-
  Texts of the program, walked, and plain ones. Conditions: those written in each theorem.
-/
import Derived.Test.YtneacgpmjlocjaaGreatDoorZTopWrapped0
import Derived.Test.YtneacgpmjlocjaaGreatDoorZTopWrapped8
import Derived.Test.YtneacgpmjlocjaaGreatDoorZTopWrapped4
import Derived.Test.YtneacgpmjlocjaaGreatDoorZTopWrapped7
import Derived.Test.YtneacgpmjlocjaaGreatDoorZTopWrapped6
import Derived.Test.YtneacgpmjlocjaaGreatDoorZTopWrapped5
import Derived.Test.YtneacgpmjlocjaaGreatDoorZTopWrapped3
import Derived.Test.YtneacgpmjlocjaaGreatDoorZTopWrapped2
set_option linter.unusedSimpArgs false
set_option linter.unusedVariables false
set_option maxHeartbeats 16000000
open Go.Lib (hid)
namespace Go.Proofs.YtneacgpmjlocjaaGreatDoor
open Go Go.RowKit
set_option maxRecDepth 100000
def flv(n:Nat):Nat:=floatOfInt .f64 (n:Int)
def flOk(x N:Nat):Bool:=
 (FloatKind.f64.format.order (flv x) 0==some .gt||FloatKind.f64.format.order (flv x) 0==some .eq)&&
 (FloatKind.f64.format.order (flv x) (flv N)==some .lt||FloatKind.f64.format.order (flv x) (flv N)==some .eq)&&
 (floatToIntVal .f64 (flv x) .i64==some (x:Int))&&
 (FloatKind.f64.format.order (flv x) (flv x)==some .eq)
theorem fl_core:((List.range 269).all fun n=>flOk n (n+32)&&flOk (n+16) (n+32)&&flOk 16 (n+32))=true:=by decide+kernel
theorem fl_tiny:((List.range 32).all fun n=>flOk 0 (2*n)&&flOk n (2*n)&&flOk 0 32&&flOk n 32)=true:=by decide+kernel
structure FlIn (b n B N:Nat):Prop where
 ge:(FloatKind.f64.format.order b 0==some .gt||FloatKind.f64.format.order b 0==some .eq)=true
 le:(FloatKind.f64.format.order b B==some .lt||FloatKind.f64.format.order b B==some .eq)=true
 int:floatToIntVal .f64 b .i64=some (n:Int)
 eq:(FloatKind.f64.format.order b b==some .eq)=true
 of:floatOfInt .f64 (n:Int)=b
 up:floatOfInt .f64 (N:Int)=B
theorem flIn_of {x N:Nat}(h:flOk x N=true):FlIn (flv x) x (flv N) N:=by
 simp only [flOk,Bool.and_eq_true]at h
 exact⟨h.1.1.1,h.1.1.2,by simpa using h.1.2,h.2,rfl,rfl⟩
theorem fl_core_at(n:Nat)(h1:32≤n)(h2:n≤300):FlIn (flv (n-32)) (n-32) (flv n) n∧FlIn (flv (n-16)) (n-16) (flv n) n∧FlIn (flv 16) 16 (flv n) n:=by
 have:=List.all_eq_true.1 fl_core (n-32) (by rw [List.mem_range];omega)
 simp only [Bool.and_eq_true]at this
 rw [show n-32+32=n by omega,show n-32+16=n-16 by omega]at this
 exact⟨flIn_of this.1.1,flIn_of this.1.2,flIn_of this.2⟩
theorem fl_tiny_at(n:Nat)(h:n≤31):FlIn (flv 0) 0 (flv (2*n)) (2*n)∧FlIn (flv n) n (flv (2*n)) (2*n)∧FlIn (flv 0) 0 (flv 32) 32∧FlIn (flv n) n (flv 32) 32:=by
 have:=List.all_eq_true.1 fl_tiny n (by rw [List.mem_range];omega)
 simp only [Bool.and_eq_true]at this
 exact⟨flIn_of this.1.1.1,flIn_of this.1.1.2,flIn_of this.1.2,flIn_of this.2⟩
theorem conv_fi {b n:Nat}(h:floatToIntVal .f64 b .i64=some (n:Int))(w:World):(convert 218 3 (.float .f64 b)).run Tryz.prog w= .ok (.int .i64 (n:Int)) w:=run_convert_float_int w _ _ _ _ _ _ (by kernel_rfl) (by kernel_rfl) h
theorem conv_if {b n:Nat}(h:floatOfInt .f64 (n:Int)=b)(w:World):(convert 3 218 (.int .i64 (n:Int))).run Tryz.prog w= .ok (.float .f64 b) w:=h ▸ run_convert_int_float w _ _ _ _ _ (by kernel_rfl) (by kernel_rfl)
theorem fits_any(b n B N g:Nat)(h:FlIn b n B N)(w:World)(hc:w.cell? ⟨g,0,none⟩=some (.int .i64 (N:Int))):Calls Tryz.prog 153 #[.float .f64 b, .pointer (some ⟨g,0,none⟩)] w fun e w'=>e= .returned (.bool true)∧w'=w:=by
 have h1:=h.ge
 have h2:=h.le
 have h4:=h.eq
 have h3:=conv_fi h.int
 have h5:=conv_if h.of
 have h6:=conv_if h.up
 clear h
 go_enter Tryz.func153,Tryz.ntmps153
 go_wp2
 go_ret
 exact⟨rfl,rfl⟩
theorem own_cell {w0 w:World}{L:List Blk}{g:Nat}{t:TypeId}{v:Value}(hm:Own w0 w L)(hh:Has L ⟨g,t,[v]⟩):w.cell? ⟨g,0,none⟩=some v:=row_cell (hm.row hh) 0
theorem whole_any(b n c m B N:Nat)(hn:FlIn b n B N)(hk:FlIn c m B N)(h:n+m≤N)(hN:N≤9223372036854775807)(w0:World):Calls Tryz.prog 148 #[.complex .f64 b c, .int .i64 (N:Int)] w0 fun e w'=>e= .returned (.tuple #[.int .i64 (n:Int), .int .i64 (m:Int), .bool true])∧Ext w0 w':=by
 have hm:=Own.start w0
 have F1:=hid fun g w hc=>fits_any b n B N g hn w hc
 have F2:=hid fun g w hc=>fits_any c m B N g hk w hc
 have h3:=conv_fi hn.int
 have h4:=conv_fi hk.int
 have h5:decide ((N:Int)-(n:Int)<(m:Int))=false:=decide_eq_false (by omega)
 have h6:¬((N:Int)-(n:Int)<(m:Int)):=by omega
 have h7:(N:Int)-(n:Int)≤9223372036854775807:=by omega
 have h8: -9223372036854775808≤(N:Int)-(n:Int):=by omega
 clear hn hk
 go_enter Tryz.func148,Tryz.ntmps148
 go_wp2_with (first|(go_at_call 153;have hc_:=own_cell (g:=g1) (t:=3) (v:= .int .i64 (N:Int)) hm Has.hd;(with_reducible refine(F1.out g1 _ hc_).mono ?_);rintro e_ w_ ⟨rfl,rfl⟩;clear hc_)|(go_at_call 153;have hc_:=own_cell (g:=g1) (t:=3) (v:= .int .i64 (N:Int)) hm Has.hd;(with_reducible refine(F2.out g1 _ hc_).mono ?_);rintro e_ w_ ⟨rfl,rfl⟩;clear hc_)|((with_reducible show qLd);refine zC hm ?_)|(((with_reducible show qBx);refine zI hm ?_);clear hm;(first|(have hx_:=g1;clear hx_;intro gx_)|intro g1);intro w hm))
 go_ret3
 exact⟨rfl,hm.x⟩
theorem eq_nil8(q:Option Addr)(n c:Nat)(w:World):(binOp .eql 22 (.slice q n c) (.slice none 0 0)).run Tryz.prog w= .ok (.bool q.isNone) w:=by
 have h:=run_equal_slice_nil (P:=Tryz.prog) (w:=w) 22 5 q n c (by kernel_rfl)
 simp [binOp,h]
theorem clone_any(l:List Byte)(p:Option Addr)(c:Nat)(w0:World)(hl:RdB w0 p l)(hb:l.length≤70368744177000):GivesR Tryz.prog 74 #[.slice p l.length c] w0 (BytesS l):=by
 unfold GivesR
 have hm:=Own.start w0
 cases p with
 | none=>
   have e1:=fun c w=>eq_nil8 none 0 c w
   obtain rfl:l=[]:=by
     rcases Nat.eq_zero_or_pos l.length with h|h
     · exact List.length_eq_zero_iff.1 h
     · have:=hl.1 h;simp at this
   clear hl
   simp only [List.length_nil]
   go_enter Tryz.func74,Tryz.ntmps74
   go_wp2
   go_ret
   exact⟨_,rfl,⟨none,0,rfl,Nat.le_refl _,RdB.nil _ _⟩,hm.x⟩
 | some a=>
   have HL:=hid hl
   have FIT:=hid (show(0+l.length)*(1+1)≤140737488355328 by omega)
   have LY:=hid (show(l.map v8).length=l.length*1 by simp)
   clear hl
   have e1:=fun n c w=>eq_nil8 (some a) n c w
   go_enter Tryz.func74,Tryz.ntmps74
   go_wp2_with (first|((with_reducible apply wq_bs0 bs0_b hm);exact rfl;clear hm;intro gz w hm)|((with_reducible show wpList _ _ _ (Oper.mk _ (Op.call _) _ _ _ _::_) _ _);refine wplO_app (M:=[⟨gz,5,[]⟩]) (R:=[]) (ds:=l.map v8) hm (slo_room0 gz _ 1) rfl rfl rfl rfl Tryz.underlying22 LY.out (cellsB (HL.out.ext hm.x)) (one_map _) FIT.out ?_;clear hm;intro v1 w M1 hm hs1;obtain⟨p_v1,c_v1,rfl⟩:=hs1.form;simp only [Nat.zero_add,List.nil_append]at hs1⊢))
   go_ret
   have hr:=slo_bytes hs1 hm
   exact⟨_,rfl,⟨_,_,rfl,hr.2.2,hr.1⟩,hm.x⟩
theorem of_any(l:List Byte)(p:Option Addr)(d:Nat)(b n c k B:Nat)(hn:FlIn b n B l.length)(hk:FlIn c k B l.length)(h:n+k≤l.length)(hk0:0<k)(hd:l.length≤d)(hb:l.length≤70368744177000)(w0:World)(hl:RdB w0 p l):
   Calls Tryz.prog 149 #[.slice p l.length d, .complex .f64 b c] w0 fun e w'=>∃v,e= .returned (.tuple #[v, .bool true])∧BytesS ((l.drop n).take k) v w'∧Ext w0 w':=by
 have hm:=Own.start w0
 obtain⟨a,rfl⟩:=Option.isSome_iff_exists.1 (hl.1 (by omega))
 have W1:=hid fun w=>whole_any b n c k B l.length hn hk h (by omega) w
 have lT:((l.drop n).take k).length=k:=by rw [List.length_take,List.length_drop];omega
 have C1:=hid fun (w:World)(hx:Ext w0 w)(e:Nat)=>show GivesR Tryz.prog 74 #[.slice (some (a.add n)) k e] w (BytesS ((l.drop n).take k))from by
   have:=clone_any ((l.drop n).take k) (some (a.add n)) e w ((hl.sub n k h hk0).ext hx) (by omega)
   rwa [lT]at this
 generalize (l.drop n).take k=T at*
 have a1:(n:Int)+(k:Int)≤9223372036854775807:=by omega
 have a2:(0:Int)≤(n:Int)+(k:Int):=by omega
 have a3:(n:Int)≤(n:Int)+(k:Int):=by omega
 have a4:(n:Int)+(k:Int)≤(d:Int):=by omega
 have a5:¬d=n:=by omega
 clear hn hk hl
 go_enter Tryz.func149,Tryz.ntmps149
 go_wp2_with (first|(go_at_call 148;(with_reducible refine(W1.out _).mono ?_);rintro e_ w ⟨rfl,hx_⟩;replace hm:=hm.ext hx_;clear hx_)|(go_at_call 74;(with_reducible refine(C1.out _ hm.x _).mono ?_);rintro e_ w ⟨v_,rfl,hv_,hx_⟩;replace hm:=hm.ext hx_;clear hx_))
 go_ret2
 exact⟨_,rfl,hv_,hm.x⟩
def slP(p:Option Addr)(c l:Nat):Option Addr:=if c=l then p else p.map (·.add l)
theorem addr_zero(a:Addr):a.add 0=a:=by unfold Addr.add;split<;>simp_all
section
variable {P:Program} {ops:Array Oper} {Q:Exit→Act→World→Prop} {rest:List Oper} {dst:Option Tmp} {ty:TypeId} {pos:String} {aft:Array Edge} {gd:Option (Nat×Bool)} {a:Act} {w:World} {T e:TypeId} {x y z:Operand}
theorem run_slL(hT:P.underlying T=some (.slice e))[hE:One1 P e](p:Option Addr)(n c l:Nat)(hl:l≤n)(w:World):(Instr.sliceAt T (.slice p n c) (some (.int .i64 (l:Int))) none none).run P w= .ok (.slice (slP p c l) (n-l) (c-l)) w:=by
 obtain⟨i,hi1,hi2⟩:=Option.map_eq_some_iff.1 hE.size
 simp [Instr.sliceAt,Instr.slice,Instr.sliceBounds,Instr.sliceBound,asIntOf,Sem.run_bind,run_underlying hT,sizeOf,typeInfo,hi1,hi2,hl,slP]
theorem run_slH(hT:P.underlying T=some (.slice e))[hE:One1 P e](p:Option Addr)(n c h:Nat)(hh:h≤c)(w:World):(Instr.sliceAt T (.slice p n c) none (some (.int .i64 (h:Int))) none).run P w= .ok (.slice p h c) w:=by
 obtain⟨i,hi1,hi2⟩:=Option.map_eq_some_iff.1 hE.size
 simp [Instr.sliceAt,Instr.slice,Instr.sliceBounds,Instr.sliceBound,asIntOf,Sem.run_bind,run_underlying hT,sizeOf,typeInfo,hi1,hi2,hh]
 intro _
 cases p<;>simp [addr_zero]
theorem run_slLH(hT:P.underlying T=some (.slice e))[hE:One1 P e](p:Option Addr)(n c l h:Nat)(hl:l≤h)(hh:h≤c)(w:World):(Instr.sliceAt T (.slice p n c) (some (.int .i64 (l:Int))) (some (.int .i64 (h:Int))) none).run P w= .ok (.slice (slP p c l) (h-l) (c-l)) w:=by
 obtain⟨i,hi1,hi2⟩:=Option.map_eq_some_iff.1 hE.size
 simp [Instr.sliceAt,Instr.slice,Instr.sliceBounds,Instr.sliceBound,asIntOf,Sem.run_bind,run_underlying hT,sizeOf,typeInfo,hi1,hi2,hl,hh,slP]
theorem gq_slL {p:Option Addr}{n c l r:Nat}(hT:P.underlying T=some (.slice e))(hE:One1 P e)(hx:a.eval x= .slice p n c)(hy:a.eval y= .int .i64 (l:Int))(hl:l≤n)(hr:n-l=r):gives P w (Is (.slice (slP p c l) r (c-l))) ((execOp a.eval (Oper.mk dst (.slice T x (some y) none none) ty pos aft gd)).run P w):=by
 subst hr
 unfold execOp
 simp only [hx,hy,Sem.run_bind,run_slL hT p n c l hl w,Result.andThen_ok,Sem.run_pure,Option.map_some,Option.map_none]
 exact gives_same
theorem wq_slL {p:Option Addr}{n c l r:Nat}(hT:P.underlying T=some (.slice e))(hE:One1 P e)(hgd:Region.wanted (Oper.mk dst (.slice T x (some y) none none) ty pos aft gd) (yielded ops a.tmps)=true)(hx:a.eval x= .slice p n c)(hy:a.eval y= .int .i64 (l:Int))(hl:l≤n)(hr:n-l=r)(hk:wpList P ops Q rest (a.put dst (.slice (slP p c l) r (c-l))) w):wpList P ops Q ((Oper.mk dst (.slice T x (some y) none none) ty pos aft gd)::rest) a w:=
 wpList_want hgd fun K hK=>by
   subst hr
   unfold Oper.wp execOp
   simp only [hx,hy,Sem.run_bind,run_slL hT p n c l hl w,Result.andThen_ok,Sem.run_pure,Option.map_some,Option.map_none]
   exact hK _ _ hk
theorem wq_slH {p:Option Addr}{n c h:Nat}(hT:P.underlying T=some (.slice e))(hE:One1 P e)(hgd:Region.wanted (Oper.mk dst (.slice T x none (some y) none) ty pos aft gd) (yielded ops a.tmps)=true)(hx:a.eval x= .slice p n c)(hy:a.eval y= .int .i64 (h:Int))(hh:h≤c)(hk:wpList P ops Q rest (a.put dst (.slice p h c)) w):wpList P ops Q ((Oper.mk dst (.slice T x none (some y) none) ty pos aft gd)::rest) a w:=
 wpList_want hgd fun K hK=>by
   unfold Oper.wp execOp
   simp only [hx,hy,Sem.run_bind,run_slH hT p n c h hh w,Result.andThen_ok,Sem.run_pure,Option.map_some,Option.map_none]
   exact hK _ _ hk
theorem wq_slLH {p:Option Addr}{n c l h r:Nat}(hT:P.underlying T=some (.slice e))(hE:One1 P e)(hgd:Region.wanted (Oper.mk dst (.slice T x (some y) (some z) none) ty pos aft gd) (yielded ops a.tmps)=true)(hx:a.eval x= .slice p n c)(hy:a.eval y= .int .i64 (l:Int))(hz:a.eval z= .int .i64 (h:Int))(hl:l≤h)(hh:h≤c)(hr:h-l=r)(hk:wpList P ops Q rest (a.put dst (.slice (slP p c l) r (c-l))) w):wpList P ops Q ((Oper.mk dst (.slice T x (some y) (some z) none) ty pos aft gd)::rest) a w:=
 wpList_want hgd fun K hK=>by
   subst hr
   unfold Oper.wp execOp
   simp only [hx,hy,hz,Sem.run_bind,run_slLH hT p n c l h hl hh w,Result.andThen_ok,Sem.run_pure,Option.map_some,Option.map_none]
   exact hK _ _ hk
end
theorem RdB.slL {w:World}{p:Option Addr}{L:List Byte}(h:RdB w p L)(c l:Nat)(hc:L.length≤c):RdB w (slP p c l) (L.drop l):=by
 unfold slP
 by_cases e:c=l
 · have:L.drop l=[]:=List.drop_eq_nil_of_le (by omega)
   rw [this];exact RdB.nil _ _
 · rw [if_neg e]
   cases p with
   | none=>
     have:L=[]:=RdB.none h
     subst this
     rw [List.drop_nil];exact RdB.nil _ _
   | some a=>
     refine⟨fun _=>rfl,fun i hi=> ?_⟩
     rw [List.length_drop]at hi
     have e:(a.add l).add i=a.add (l+i):=by unfold Addr.add;split<;>split<;>simp_all<;>omega
     simp only [Option.map,Option.getD_some,e]
     have:=h.2 (l+i) (by omega)
     simp only [Option.getD_some]at this
     rw [this];simp [List.getElem?_drop]
theorem RdB.slLH {w:World}{p:Option Addr}{L:List Byte}(h:RdB w p L)(c l k:Nat)(hc:L.length≤c):RdB w (slP p c l) ((L.drop l).take k):=(h.slL c l hc).take k
theorem right15_any(key:List Byte)(p:Option Addr)(c:Nat)(w:World):Calls Tryz.prog 35 #[.slice p key.length c] w fun e w'=>e= .returned (.bool (rightL key))∧w=w':=by
 by_cases h0:0<key.length
 · have a1:decide ((0:Int)<(key.length:Int))=true:=decide_eq_true (by omega)
   have a2:(0:Int)<(key.length:Int):=by omega
   have e1:decide (0<key.length)=true:=decide_eq_true h0
   by_cases h1:key.length≤128
   · have a3:decide ((key.length:Int)≤128)=true:=decide_eq_true (by omega)
     have a4:(key.length:Int)≤128:=by omega
     have e:Hid (rightL key=true):=hid (by rw [rightL,e1,decide_eq_true h1];rfl)
     rw [e.out]
     clear e1
     go_enter Tryz.func35,Tryz.ntmps35
     go_wp2
     go_ret
     exact⟨rfl,rfl⟩
   · have a3:decide ((key.length:Int)≤128)=false:=decide_eq_false (by omega)
     have a4:¬(key.length:Int)≤128:=by omega
     have e:Hid (rightL key=false):=hid (by rw [rightL,e1,decide_eq_false h1];rfl)
     rw [e.out]
     clear e1
     go_enter Tryz.func35,Tryz.ntmps35
     go_wp2
     go_ret
     exact⟨rfl,rfl⟩
 · have e:rightL key=false:=by rw [rightL,decide_eq_false h0];rfl
   rw [e]
   have a2:key.length=0:=by omega
   rw [a2]
   go_enter Tryz.func35,Tryz.ntmps35
   go_wp2
   go_ret
   exact⟨rfl,rfl⟩
theorem Own.join {w0 w w':World}{L M:List Blk}(h:Own w0 w L)(k:Own w w' M):Own w0 w' (M++L):=
 ⟨h.1.trans k.1,by
   rw [List.map_append,List.nodup_append]
   refine⟨k.2.1,h.2.1,fun a ha b hb e=> ?_⟩
   obtain⟨x,hx,rfl⟩:=List.mem_map.1 ha
   obtain⟨y,hy,rfl⟩:=List.mem_map.1 hb
   have h1:=(k.2.2 x hx).1
   have h2:=h.lt y hy
   omega,fun b hb=>by
   rcases List.mem_append.1 hb with hb|hb
   · exact⟨Nat.le_trans h.1.size (k.2.2 b hb).1,(k.2.2 b hb).2⟩
   · exact⟨(h.2.2 b hb).1,row_ext (h.2.2 b hb).2 k.1⟩⟩
theorem Own.rdK {w0 w:World}{L:List Blk}{g:Nat}{e:TypeId}{ks:List (List Byte)}(hm:Own w0 w L)(hh:Has L ⟨g,e,catV ks⟩)(hk:∀k∈ks,k.length=16):RdK w (some ⟨g,0,none⟩) 16 ks:=⟨hk,RdB.of_row (hm.row hh)⟩
theorem RdR.row {w:World}{p:Option Addr}{ls:List (List Byte)}(h:RdR w p ls)(k:Nat)(hk:k<ls.length):∃a:Addr,p=some a∧∃(q:Option Addr)(c:Nat),w.cell? (a.add k)=some (.slice q (ls.getD k []).length c)∧RdB w q (ls.getD k [])∧(ls.getD k []).length≤c∧(ls.getD k []).length≤maxLen:=by
 obtain⟨a,rfl⟩:=Option.isSome_iff_exists.1 (h.1 (by omega))
 exact⟨a,rfl,h.2 k hk⟩
theorem clone_own(l:List Byte)(p:Option Addr)(c:Nat)(w0:World)(hl:RdB w0 p l)(hb:l.length≤70368744177000):Calls Tryz.prog 74 #[.slice p l.length c] w0 fun e w'=>∃v M,e= .returned v∧Own w0 w' (M++[])∧SlO M 5 1 v l.length (l.map v8):=by
 have hm:=Own.start w0
 cases p with
 | none=>
   have e1:=fun c w=>eq_nil8 none 0 c w
   obtain rfl:l=[]:=by
     rcases Nat.eq_zero_or_pos l.length with h|h
     · exact List.length_eq_zero_iff.1 h
     · have:=hl.1 h;simp at this
   clear hl
   simp only [List.length_nil]
   go_enter Tryz.func74,Tryz.ntmps74
   go_wp2
   go_ret
   exact⟨_,[],rfl,hm,SlO.nil _ _⟩
 | some a=>
   have HL:=hid hl
   have FIT:=hid (show(0+l.length)*(1+1)≤140737488355328 by omega)
   have LY:=hid (show(l.map v8).length=l.length*1 by simp)
   clear hl
   have e1:=fun n c w=>eq_nil8 (some a) n c w
   go_enter Tryz.func74,Tryz.ntmps74
   go_wp2_with (first|((with_reducible apply wq_bs0 bs0_b hm);exact rfl;clear hm;intro gz w hm)|((with_reducible show wpList _ _ _ (Oper.mk _ (Op.call _) _ _ _ _::_) _ _);refine wplO_app (M:=[⟨gz,5,[]⟩]) (R:=[]) (ds:=l.map v8) hm (slo_room0 gz _ 1) rfl rfl rfl rfl Tryz.underlying22 LY.out (cellsB (HL.out.ext hm.x)) (one_map _) FIT.out ?_;clear hm;intro v1 w M1 hm hs1;obtain⟨p_v1,c_v1,rfl⟩:=hs1.form;simp only [Nat.zero_add,List.nil_append]at hs1⊢))
   go_ret
   exact⟨_,M1,rfl,hm,hs1⟩
theorem of_own(l:List Byte)(p:Option Addr)(d:Nat)(b n c k B:Nat)(hn:FlIn b n B l.length)(hk:FlIn c k B l.length)(h:n+k≤l.length)(hd:l.length≤d)(hb:l.length≤70368744177000)(w0:World)(hl:RdB w0 p l):
   Calls Tryz.prog 149 #[.slice p l.length d, .complex .f64 b c] w0 fun e w'=>∃v M,e= .returned (.tuple #[v, .bool true])∧Own w0 w' (M++[])∧SlO M 5 1 v k (((l.drop n).take k).map v8):=by
 have hm:=Own.start w0
 have W1:=hid fun w=>whole_any b n c k B l.length hn hk h (by omega) w
 have lT:((l.drop n).take k).length=k:=by rw [List.length_take,List.length_drop];omega
 have C1:=hid fun (w:World)(hx:Ext w0 w)=>show Calls Tryz.prog 74 #[.slice (slP p d n) k (d-n)] w fun e w'=>∃v M,e= .returned v∧Own w w' (M++[])∧SlO M 5 1 v k (((l.drop n).take k).map v8)from by
   have:=clone_own ((l.drop n).take k) (slP p d n) (d-n) w ((hl.ext hx).slLH d n k hd) (by omega)
   rwa [lT]at this
 obtain⟨T,hT⟩:=exq ((l.drop n).take k)
 rw [←hT]at C1⊢
 have a1:(n:Int)+(k:Int)≤9223372036854775807:=by omega
 have a2:(0:Int)≤(n:Int)+(k:Int):=by omega
 have hkd:n+k≤d:=by omega
 clear hn hk hl hT lT
 go_enter Tryz.func149,Tryz.ntmps149
 go_wp2_with (first|(go_at_call 148;(with_reducible refine(W1.out _).mono ?_);rintro e_ w ⟨rfl,hx_⟩;replace hm:=hm.ext hx_;clear hx_)|((with_reducible apply wq_slLH (l:=n) (h:=n+k) (r:=k) Tryz.underlying22);infer_instance;exact rfl;exact rfl;exact rfl;exact rfl;exact(by omega);exact hkd;exact(by omega))|(go_at_call 74;(with_reducible refine(C1.out _ hm.x).mono ?_);rintro e_ w ⟨v_,M_,rfl,hm1,hs_⟩;replace hm:=hm1.rebase hm.x;clear hm1))
 go_ret2
 exact⟨_,M_,rfl,hm,hs_⟩
theorem fl_16:((List.range 400).all fun n=>flOk 0 (n+16)&&flOk n (n+16)&&flOk 16 (n+16))=true:=by decide+kernel
theorem flv_0:flv 0=0:=by decide+kernel
theorem flv_16:flv 16=4625196817309499392:=by decide+kernel
theorem fl_16_at(n:Nat)(h:n<400):FlIn 0 0 (flv (n+16)) (n+16)∧FlIn (flv n) n (flv (n+16)) (n+16)∧FlIn 4625196817309499392 16 (flv (n+16)) (n+16):=by
 have:=List.all_eq_true.1 fl_16 n (by rw [List.mem_range];omega)
 simp only [Bool.and_eq_true]at this
 exact⟨flv_0 ▸ flIn_of this.1.1,flIn_of this.1.2,flv_16 ▸ flIn_of this.2⟩
def makeT:Nat→List Byte
 |0=>boxTab++zer 256
 |k+1=>setN (makeT k) (256+(nth (makeT k) k).toNat) (BitVec.ofNat 8 k)
theorem boxTab_length:boxTab.length=256:=tab_length
theorem makeT_length(k:Nat):(makeT k).length=512:=by
 induction k with
 |zero=>rw [makeT,List.length_append,boxTab_length,zer_length]
 |succ k ih=>rw [makeT,setN_length,ih]
attribute [local simp] makeT_length
end Go.Proofs.YtneacgpmjlocjaaGreatDoor
namespace Go.Proofs.YtneacgpmjlocjaaGreatDoor
open Go Go.RowKit
set_option maxRecDepth 100000
theorem tbox_any(g gb:Nat)(a:Byte)(w:World)(h1:Row w g 88 (tcells gb mixT unmixT))(h2:Row w gb 113 (tabs.map v8)):Calls Tryz.prog 30 #[.pointer (some ⟨g,0,none⟩),v8 a] w fun e w'=>e= .returned (v8 (bxTo a))∧w=w':=by
 have hc:w.cell? ⟨g,0,none⟩=some (.pointer (some ⟨gb,0,none⟩)):=by rw [row_cell h1 0];exact tcells_ptr _ _ _
 have H2:=hid h2
 clear h1 h2
 go_enter Tryz.func30,Tryz.ntmps30
 go_wp2_with fail
 refine(to_any gb a w H2.out).mono ?_
 rintro e w' ⟨rfl,rfl⟩
 go_wp2
 go_ret
 exact⟨rfl,rfl⟩
def shiftBL(b:List Byte):List Byte:=tab 16 fun i=>nth b (ush i)
def plus4(a b:List Byte):List Byte:=tab 4 fun i=>nth a i^^^nth b i
theorem plus4_length(a b:List Byte):(plus4 a b).length=4:=tab_length
def boxW(a:List Byte):List Byte:=tab 4 fun i=>bxTo (nth a i)
theorem boxW_length(a:List Byte):(boxW a).length=4:=tab_length
theorem aplus_any(a b:List Byte)(ha:a.length=4)(hb:b.length=4)(w0:World):Gives Tryz.prog 86 #[A8 a,A8 b] w0 (A8 (plus4 a b)):=by
 unfold Gives
 have hm:=Own.start w0
 have ha1:=Nat.le_of_eq ha
 have ha2:=Nat.le_of_eq ha.symm
 have hb1:=Nat.le_of_eq hb
 have hb2:=Nat.le_of_eq hb.symm
 have Ha:=hid ha
 clear ha hb
 go_enter Tryz.func86,Tryz.ntmps86
 go_wp2_with (first|((first|((with_reducible show qAl);refine zG hm ?_)|((with_reducible show qBx);refine zH hm ?_));clear hm;(first|(have hx_:=g1;clear hx_;(first|(have hx_:=g2;clear hx_;(first|(have hx_:=g3;clear hx_;intro gx_)|intro g3))|intro g2))|intro g1);intro w hm))
 rw [part_start (f:=fun i=>nth a i^^^nth b i) Ha.out]at hm
 go_loopw [6] (fun i wr=>∃k:Nat,k≤4∧i= .int .i64 k∧Own w0 wr [⟨g3,156,(zer 4).map v8⟩,⟨g2,156,b.map v8⟩,⟨g1,156,(part 4 k (fun i=>nth a i^^^nth b i) (nth a)).map v8⟩]) (fun i _=>4-(intOf i).toNat)
 case atStart=>exact⟨0,by omega,rfl,hm⟩
 case round =>
   obtain⟨k,hk,rfl,hm⟩:=hrel
   by_cases hlt:k<4
   · have e1:nth (part 4 k (fun i=>nth a i^^^nth b i) (nth a)) k=nth a k:=nth_part_ge hlt (Nat.le_refl _)
     go_wp2_with fail
     refine rgE 8 19 ?_
     simp only [zTa]
     repeat (first
         | (apply walk_is rfl rfl rfl
            · (intro wx hwx;first|((with_reducible show qGl);exact zJ (hm.ext hwx))|(go_simp;(try go_bits);first|exact gives_same|exact gives_skip))
            · (simp only [zPu];rfl))
         | (apply walk_not rfl rfl rfl
            · (simp only [zPu];rfl)))
     intro wz hwz
     simp only [zZi]
     repeat (first|rw [fin_is]|(rw [fin_cons];intro _ _))
     rw [fin_nil]
     try (replace hm:=hm.ext hwz)
     simp only [zPu]
     go_wp2_with (first|((with_reducible show qSt);refine zD hm ?_;clear hm;intro w hm))
     go_roundw
     case rel=>
       rw [part_set' hlt rfl]at hm
       exact⟨k+1,by omega,by go_num,hm⟩
     case measure=>simp [intOf]<;>omega
   · obtain rfl:k=4:=by omega
     rw [part_all]at hm
     go_wp2_with (first|((with_reducible show qLd);refine zB hm ?_)|((with_reducible show qSt);refine zE hm ?_;clear hm;intro w hm))
     refine rtO hm rfl rfl ⟨rfl,hm.x⟩
theorem aboxed_any(g gb:Nat)(a:List Byte)(ha:a.length=4)(w0:World)(h1:Row w0 g 88 (tcells gb mixT unmixT))(h2:Row w0 gb 113 (tabs.map v8)):Gives Tryz.prog 85 #[.pointer (some ⟨g,0,none⟩),A8 a] w0 (A8 (boxW a)):=by
 unfold Gives
 have hm:=Own.start w0
 have TB:=hid fun (x:Byte)(w:World)(h:Ext w0 w)=>tbox_any g gb x w (row_ext h1 h) (row_ext h2 h)
 have ha1:=Nat.le_of_eq ha
 have ha2:=Nat.le_of_eq ha.symm
 have Ha:=hid ha
 clear ha h1 h2
 go_enter Tryz.func85,Tryz.ntmps85
 go_wp2_with (first|((with_reducible show qLd);refine zB hm ?_)|((first|((with_reducible show qAl);refine zG hm ?_)|((with_reducible show qBx);refine zH hm ?_));clear hm;(first|(have hx_:=g1;clear hx_;(first|(have hx_:=g2;clear hx_;intro gx_)|intro g2))|intro g1);intro w hm))
 rw [part_start (f:=fun i=>bxTo (nth a i)) Ha.out]at hm
 go_loopw [8] (fun i wr=>∃k:Nat,k≤4∧i= .int .i64 k∧Own w0 wr [⟨g2,156,(zer 4).map v8⟩,⟨g1,156,(part 4 k (fun i=>bxTo (nth a i)) (nth a)).map v8⟩]) (fun i _=>4-(intOf i).toNat)
 case atStart=>exact⟨0,by omega,rfl,hm⟩
 case round=>
   obtain⟨k,hk,rfl,hm⟩:=hrel
   by_cases hlt:k<4
   · have hd:decide ((k:Int)<4)=true:=decide_eq_true (by omega)
     have hd2:(k:Int)<4:=by omega
     have ec:=fun w=>run_index_v (P:=Tryz.prog) (T:=156) (e:=5) (f:=v8) (by kernel_rfl) a Ha.out k hlt w
     have EP:Hid (setN (part 4 k (fun i=>bxTo (nth a i)) (nth a)) k (bxTo (nth a k))=part 4 (k+1) (fun i=>bxTo (nth a i)) (nth a)):=hid (part_set' hlt rfl)
     have lP:(part 4 k (fun i=>bxTo (nth a i)) (nth a)).length=4:=part_length
     generalize part 4 k (fun i=>bxTo (nth a i)) (nth a)=C at*
     go_wp2_with (first|(go_at_call 30;(with_reducible refine(TB.out _ _ hm.x).mono ?_);rintro e_ w_ ⟨rfl,rfl⟩)|((with_reducible show qSt);refine zD hm ?_;clear hm;intro w hm))
     rw [EP.out]at hm
     go_roundw
     case rel=>exact⟨k+1,by omega,by go_num,hm⟩
     case measure=>simp [intOf]<;>omega
   · obtain rfl:k=4:=by omega
     rw [part_all]at hm
     go_wp2_with (first|((with_reducible show qLd);refine zB hm ?_)|((with_reducible show qSt);refine zE hm ?_;clear hm;intro w hm))
     refine rtO hm rfl rfl ⟨rfl,hm.x⟩
theorem aboth_any(a b:List Byte)(ha:a.length=16)(hb:b.length=16)(w0:World):Gives Tryz.prog 90 #[A8 a,A8 b] w0 (A8 (bothL a b)):=by
 unfold Gives
 have hm:=Own.start w0
 have C1:=hid fun (w wx:World)(p q:Option Addr)(h1:RdB wx p a)(h2:RdB wx q b)=>by
   have h:=xor_any a b p q 16 16 wx h1 h2 (by omega) (by omega)
   rw [ha,hb]at h;exact h
 have lX:(xorL a b).length=16:=by rw [xorL_length,ha,hb];rfl
 have eX:blk (xorL a b)=bothL a b:=by
   refine nth_ext (by rw [blk_length,bothL_length]) fun i hi=> ?_
   rw [blk_length]at hi
   rw [bothL_nth _ _ _ hi]
   have h1:nth (blk (xorL a b)) i=nth (xorL a b) i:=by
     rw [show nth (xorL a b) i=gb (xorL a b) i from(gb_in _ i).symm];simp [nth,blk,hi]
   rw [h1]
   exact xorL_getD a b i (by rw [lX];exact hi)
 have C2:=hid fun (wx:World)(p:Option Addr)(c:Nat)(h:RdB wx p (xorL a b))=>eX ▸ oblock_any (xorL a b) p c wx h
 have lZ:(bothL a b).length=16:=bothL_length _ _
 generalize bothL a b=Z at*
 generalize xorL a b=X at*
 have ha1:=Nat.le_of_eq ha
 have ha2:=Nat.le_of_eq ha.symm
 have hb1:=Nat.le_of_eq hb
 have hb2:=Nat.le_of_eq hb.symm
 clear lX eX
 go_enter Tryz.func90,Tryz.ntmps90
 go_wp2_with (first|((first|((with_reducible show qAl);refine zG hm ?_)|((with_reducible show qBx);refine zH hm ?_));clear hm;(first|(have hx_:=g1;clear hx_;(first|(have hx_:=g2;clear hx_;intro gx_)|intro g2))|intro g1);intro w hm))
 have c1:=fun wx (hwx:Ext _ wx)=>C1.out wx wx _ _ ((hm.ext hwx).rdB (g:=g1) (l:=a) (by repeat (first|exact Has.hd|assumption|apply Has.tl))) ((hm.ext hwx).rdB (g:=g2) (l:=b) (by repeat (first|exact Has.hd|assumption|apply Has.tl)))
 refine rgE 4 9 ?_
 simp only [zTa]
 repeat (first
     | (apply walk_some (BytesS X) 7 (BytesS.stable _) rfl rfl rfl rfl
        · (intro wx hwx;go_simp;with_reducible exact gives_callR (c1 wx hwx)))
     | (apply walk_from (T:=[(7,BytesS X)]) rfl rfl
        · (intro wx hwx;simp only [withS];(rintro x ⟨p,c,rfl,hlc,hb'⟩);refine⟨rfl, ?_⟩;go_simp;with_reducible exact gives_call (C2.out wx p c hb'))
        · (simp only [zPu];rfl))
     | (apply walk_is rfl rfl rfl
        · (intro wx hwx;go_simp;(try go_bits);first|exact gives_same|exact gives_skip)
        · (simp only [zPu];rfl))
     | (apply walk_not rfl rfl rfl
        · (simp only [zPu];rfl)))
 intro wz hwz
 simp only [zZi]
 repeat (first|rw [fin_is]|(rw [fin_cons];intro _ _))
 rw [fin_nil]
 try (replace hm:=hm.ext hwz)
 simp only [zPu]
 clear c1
 go_wp2_with (first|((with_reducible show qSt);refine zE hm ?_;clear hm;intro w hm))
 refine rtO hm rfl rfl ⟨rfl,hm.x⟩
def joF(F:List Byte)(k:Nat):List Byte:=F.take (4*k)++List.replicate (16-4*k) 0
theorem joF_length(F:List Byte)(k:Nat)(hF:F.length=16)(hk:k≤4):(joF F k).length=16:=by rw [joF,List.length_append,List.length_take,List.length_replicate];omega
theorem joF_step(F b:List Byte)(k m:Nat)(hF:F.length=16)(hk:k<4)(hm:4≤m)(hb:(F.drop (4*k)).take 4=b):over (joF F k) (4*k) (b.take m)=joF F (k+1):=by
 have lb:b.length=4:=by rw [←hb,List.length_take,List.length_drop];omega
 have lt:(F.take (4*k)).length=4*k:=by rw [List.length_take];omega
 have e:(F.take (4*k)++List.replicate (16-4*k) (0:Byte)).drop (4*k+4)=List.replicate (16-4*(k+1)) 0:=by
   rw [List.drop_append,lt,List.drop_of_length_le (by omega),List.nil_append,List.drop_replicate,show 16-4*k-(4*k+4-4*k)=16-4*(k+1)from by omega]
 rw [List.take_of_length_le (by omega),over,joF,List.take_append_of_le_length (by omega),List.take_of_length_le (by omega),lb,e,joF,show 4*(k+1)=4*k+4 from by omega,List.take_add,hb]
theorem joF_all(F:List Byte)(hF:F.length=16):joF F 4=F:=by rw [joF,List.take_of_length_le (by omega)];simp
theorem joF_zero(F:List Byte):joF F 0=zer 16:=rfl
theorem joined_any(ws:List (List Byte))(p:Option Addr)(c:Nat)(w0:World)(h:RdK w0 p 4 ws)(h4:ws.length=4)(hc:4≤c):Gives Tryz.prog 87 #[.slice p 4 c] w0 (A8 ws.flatten):=by
 unfold Gives
 have hm:=Own.start w0
 have HK:=hid h
 have H4:=hid h4
 have lF:ws.flatten.length=16:=by rw [flatten_length 4 ws h.1,h4]
 have LF:=hid lF
 have FS:=hid fun k (hk:k<4)=>(flatten_seg 4 ws k h.1 (by omega):(ws.flatten.drop (k*4)).take 4=ws.getD k [])
 obtain⟨F,hF⟩:∃F,F=ws.flatten:=⟨_,rfl⟩
 rw [←hF]at LF FS⊢
 clear h h4 lF hF
 go_enter Tryz.func87,Tryz.ntmps87
 go_wp2_with (first|(((with_reducible show qAl);refine zG hm ?_);clear hm;(first|(have hx_:=g1;clear hx_;(first|(have hx_:=g2;clear hx_;intro gx_)|intro g2))|intro g1);intro w hm))
 go_loopw [8] (fun i wr=>∃k:Nat,k≤4∧i= .int .i64 k∧Own w0 wr [⟨g2,132,(joF F k).map v8⟩,⟨g1,132,(zer 16).map v8⟩]) (fun i _=>4-(intOf i).toNat)
 case atStart=>exact⟨0,by omega,rfl,by rw [joF_zero];exact hm⟩
 case round =>
   obtain⟨k,hk,rfl,hm⟩:=hrel
   by_cases hlt:k<4
   · have hd:decide ((k:Int)<4)=true:=decide_eq_true (by omega)
     have hd2:(k:Int)<4:=by omega
     obtain⟨a,rfl⟩:=HK.out.addr (by omega) (by rw [H4.out];omega)
     obtain⟨hK,hKl⟩:=HK.out.at (by omega) k (by rw [H4.out];exact hlt)
     simp only [Option.getD_some]at hK
     have HK2:=hid hK
     have ST:=hid fun m (hm4:4≤m)=>joF_step F (ws.getD k []) k m LF.out hlt hm4 (by rw [Nat.mul_comm];exact FS.out k hlt)
     have lJ:=joF_length F k LF.out (by omega)
     have lJ2:=joF_length F (k+1) LF.out (by omega)
     generalize joF F k=J at*
     obtain⟨J2,hJ2⟩:∃J2,joF F (k+1)=J2:=⟨_,rfl⟩
     rw [hJ2]at ST lJ2
     have HJ2:=hid hJ2
     clear hJ2
     generalize ws.getD k []=K at*
     have hK1:=Nat.le_of_eq hKl
     have hK2':=Nat.le_of_eq hKl.symm
     clear hK
     go_wp2_with (first|((with_reducible apply wq_rdW (HK2.out.ext hm.x));exact rfl;infer_instance;exact rfl;exact hKl)|((with_reducible show qSt);refine zE hm ?_;clear hm;intro w hm)|(((with_reducible show qAl);refine zG hm ?_);clear hm;(first|(have hx_:=g1;clear hx_;(first|(have hx_:=g2;clear hx_;intro gx_)|intro g2))|intro g1);intro w hm))
     have hl0:(0:Int)≤4*(k:Int):=by omega
     have hl1:4*(k:Int)≤16:=by omega
     have hl2:(4*(k:Int)).toNat=4*k:=by omega
     have hl3:16≠4*k:=by omega
     have hl4:¬16=4*k:=hl3
     refine rgE 4 20 ?_
     simp only [zTa]
     repeat (first
         | (apply walk_is rfl rfl rfl
            · (intro wx hwx;go_simp;(try go_bits);first|exact gives_same|exact gives_skip)
            · (simp only [zPu];rfl))
         | (apply walk_not rfl rfl rfl
            · (simp only [zPu];rfl)))
     intro wz hwz
     simp only [zZi]
     repeat (first|rw [fin_is]|(rw [fin_cons];intro _ _))
     rw [fin_nil]
     try (replace hm:=hm.ext hwz)
     simp only [zPu]
     refine wpl_cp8 hm rfl rfl rfl rfl rfl (by kernel_rfl) (by repeat (first|exact Swap.hd|assumption|apply Swap.tl)) (hm.rdB (l:=K) (by repeat (first|exact Has.hd|assumption|apply Has.tl))) hKl.symm (ST.out _ (by omega)) (by omega) ?_
     clear hm
     intro w hm
     go_wp2_with fail
     go_roundw
     case rel=>exact⟨k+1,by omega,by go_num,by rw [HJ2.out];exact hm.drop⟩
     case measure=>simp [intOf]<;>omega
   · obtain rfl:k=4:=by omega
     rw [joF_all _ LF.out]at hm
     have lF1:=Nat.le_of_eq LF.out
     have lF2:=Nat.le_of_eq LF.out.symm
     go_wp2_with (first|((with_reducible show qLd);refine zB hm ?_)|((with_reducible show qSt);refine zE hm ?_;clear hm;intro w hm))
     refine rtO hm rfl rfl ⟨rfl,hm.x⟩
theorem wq_row1 {P:Program}{ops:Array Oper}{Q:Exit→Act→World→Prop}{rest:List Oper}{a:Act}{w:World}{g k:Nat}{t T ty:TypeId}{cs:List Value}{v:Value}{dst:Option Tmp}{x:Operand}{pos:String}{aft:Array Edge}{gd:Option (Nat×Bool)}(h:Row w g t cs)(hgd:Region.wanted (Oper.mk dst (.load T x) ty pos aft gd) (yielded ops a.tmps)=true)(hT:One1 P T)(hx:a.eval x= .pointer (some ⟨g,k,none⟩))(hv:cs[k]? =some v)(hr:wpList P ops Q rest (a.put dst v) w):wpList P ops Q (Oper.mk dst (.load T x) ty pos aft gd::rest) a w:=
 wpList_want hgd fun K hK=>by
   have hc:w.cell? ⟨g,k,none⟩=some v:=by rw [row_cell h k];exact hv
   obtain⟨d,hu,hd⟩:=Option.map_eq_some_iff.1 hT.row
   have hagg:(isAgg T).run P w= .ok false w:=by
     unfold isAgg
     rw [Sem.run_bind,run_underlying hu w]
     cases d<;>simp_all
   have hl:(Instr.loadAt T (.pointer (some ⟨g,k,none⟩))).run P w= .ok v w:=by simp [Instr.loadAt,Instr.sureAddr,loadVar,Sem.run_bind,hagg,hc]
   unfold Oper.wp execOp
   simp only [hx,Sem.run_bind,hl,Result.andThen_ok,Sem.run_pure]
   exact hK _ _ hr
def aesC(gt:Nat)(p:Option Addr)(n c:Nat):List Value:=[.pointer (some ⟨gt,0,none⟩), .slice p n c]
def AesR(w:World)(g:Nat)(k0:List Byte)(ks:List (List Byte))(kl:List Byte):Prop:=
 ∃gt gb a c,Row w g 163 (aesC gt (some a) (ks.length+2) c)∧Row w gt 88 (tcells gb mixT unmixT)∧Row w gb 113 (tabs.map v8)∧RdK w (some a) 16 (k0::(ks++[kl]))∧ks.length+2≤c∧0<ks.length∧ks.length≤1000
theorem AesR.ext {w w':World}{g:Nat}{k0 kl:List Byte}{ks:List (List Byte)}(h:AesR w g k0 ks kl)(hx:Ext w w'):AesR w' g k0 ks kl:=by
 obtain⟨gt,gb,a,c,h1,h2,h3,h4,h5⟩:=h
 exact⟨gt,gb,a,c,row_ext h1 hx,row_ext h2 hx,row_ext h3 hx,h4.ext hx,h5⟩
theorem RdK.three {w:World}{a:Addr}{k0 kl:List Byte}{ks:List (List Byte)}(h:RdK w (some a) 16 (k0::(ks++[kl])))(h0:0<ks.length):
   k0.length=16∧kl.length=16∧RdB w (some a) k0∧RdK w (some (a.add 16)) 16 ks∧RdB w (some (a.add ((ks.length+1)*16))) kl:=by
 have e0:=h.at (by omega) 0 (by simp)
 have e1:=h.at (by omega) (ks.length+1) (by simp)
 have el:(k0::(ks++[kl])).getD (ks.length+1) []=kl:=by simp
 rw [el]at e1
 simp only [List.getD_cons_zero,Option.getD_some,Nat.zero_mul]at e0 e1
 have hks:∀k∈ks,k.length=16:=fun k hk=>h.1 k (by simp [hk])
 have lk:=flatten_length 16 ks hks
 have hs:=h.2.sub 16 (ks.length*16) (by simp only [List.flatten_cons,List.flatten_append,List.length_append,e0.2,lk];omega) (by omega)
 have ef:((k0::(ks++[kl])).flatten.drop 16).take (ks.length*16)=ks.flatten:=by
   rw [List.flatten_cons,List.drop_append_of_le_length (by omega),List.drop_of_length_le (by omega),List.nil_append,List.flatten_append,List.take_append_of_le_length (by omega),List.take_of_length_le (by omega)]
 rw [ef]at hs
 refine⟨e0.2,e1.2, ?_,⟨hks,hs⟩,e1.1⟩
 have:=e0.1
 rwa [show a.add 0=a from rfl]at this
def aesE(k0:List Byte)(ks:List (List Byte))(kl b:List Byte):List Byte:=last (rnds (bothL b k0) ks) kl
theorem aesE_length(k0:List Byte)(ks:List (List Byte))(kl b:List Byte):(aesE k0 ks kl b).length=16:=by rw [aesE];exact last_length _ _
theorem encrypt_any(g:Nat)(k0 kl:List Byte)(ks:List (List Byte))(b:List Byte)(hb:b.length=16)(w0:World)(h:AesR w0 g k0 ks kl):Gives Tryz.prog 67 #[.pointer (some ⟨g,0,none⟩),A8 b] w0 (A8 (aesE k0 ks kl b)):=by
 unfold Gives
 have hm:=Own.start w0
 obtain⟨gt,gb,a,c,h1,h2,h3,h4,h5,h6,h7⟩:=h
 have R1:=hid fun wx (hx:Ext w0 wx)=>row_ext h1 hx
 have R2:=hid fun wx (hx:Ext w0 wx)=>row_ext h2 hx
 have R3:=hid fun wx (hx:Ext w0 wx)=>row_ext h3 hx
 obtain⟨l0,ll,d0,dm,dl⟩:=h4.three h6
 have D0:=hid d0
 have DM:=hid dm
 have DL:=hid dl
 obtain⟨m,hm_⟩:∃m,ks.length=m:=⟨_,rfl⟩
 have B0:=hid fun wx=>aboth_any b k0 hb l0 wx
 have B1:=hid fun wx (hx:Ext w0 wx)=>show Gives Tryz.prog 89 #[.pointer (some ⟨gt,0,none⟩),A8 (bothL b k0), .slice (some (a.add 16)) m (c-1)] wx (A8 (rnds (bothL b k0) ks))from by
   have:=trounds_any gt gb (bothL b k0) ks (some (a.add 16)) (c-1) (bothL_length _ _) wx (dm.ext hx) (by omega) (by omega) (row_ext h2 hx)
   rwa [hm_]at this
 have lR:(rnds (bothL b k0) ks).length=16:=rnds_length _ _ (bothL_length _ _)
 have B2:=hid fun wx (hx:Ext w0 wx)=>show Gives Tryz.prog 91 #[.pointer (some ⟨gt,0,none⟩),A8 (rnds (bothL b k0) ks),A8 kl] wx (A8 (aesE k0 ks kl b))from last_any gt gb (rnds (bothL b k0) ks) kl lR ll wx (row_ext h2 hx) (row_ext h3 hx)
 have lE:=aesE_length k0 ks kl b
 rw [hm_]at R1 h5 h6 h7 DL
 generalize aesE k0 ks kl b=E at*
 generalize rnds (bothL b k0) ks=R at*
 generalize bothL b k0=X at*
 have P0:Hid ((aesC gt (some a) (m+2) c)[0]? =some (.pointer (some ⟨gt,0,none⟩))):=hid rfl
 have P1:Hid ((aesC gt (some a) (m+2) c)[1]? =some (.slice (some a) (m+2) c)):=hid rfl
 have q1:((m:Int)+2)-1=(m:Int)+1:=by omega
 have q2:(1:Int)≤(m:Int)+1:=by omega
 have q3:(m:Int)+1≤(c:Int):=by omega
 have q4:(m:Int)+1<(m:Int)+2:=by omega
 have q5:((m:Int)+1).toNat=m+1:=by omega
 have q6:(0:Int)<(m:Int)+2:=by omega
 have q7:¬c=1:=by omega
 have q8:(m:Int)+1<(m:Int)+2:=by omega
 have q9:0≤(m:Int)+1:=by omega
 have hb1:=Nat.le_of_eq hb
 have hb2:=Nat.le_of_eq hb.symm
 have hl1:=Nat.le_of_eq lR
 have hl2:=Nat.le_of_eq lR.symm
 have he1:=Nat.le_of_eq lE
 have he2:=Nat.le_of_eq lE.symm
 clear h1 h2 h3 h4 d0 dm dl hm_ hb lR lE
 go_enter Tryz.func67,Tryz.ntmps67
 go_wp2_with (first|((with_reducible apply wq_row1 (R1.out _ hm.x));exact rfl;infer_instance;exact rfl;exact P1.out)|((first|((with_reducible show qAl);refine zG hm ?_)|((with_reducible show qBx);refine zH hm ?_));clear hm;intro gx_;intro w hm))
 have r1:=fun wx (hwx:Ext w wx)=>R1.out wx (hm.x.trans hwx)
 have d0:=fun wx (hwx:Ext w wx)=>D0.out.ext (hm.x.trans hwx)
 have hx0:=hm.x
 refine rgE 19 47 ?_
 simp only [zTa]
 repeat (first
     | (apply walk_is rfl rfl rfl
        · (intro wx hwx;(with_reducible apply gq_row1 ((r1) wx hwx));infer_instance;exact rfl;exact P0.out)
        · (simp only [zPu];rfl))
     | (apply walk_is rfl rfl rfl
        · (intro wx hwx;(with_reducible apply gq_row1 ((r1) wx hwx));infer_instance;exact rfl;exact P1.out)
        · (simp only [zPu];rfl))
     | (apply walk_is rfl rfl rfl
        · (intro wx hwx;(with_reducible apply gq_rdW ((d0) wx hwx));infer_instance;exact rfl;(focus (first|rfl|omega|(simp;done)|(simp;omega))))
        · (simp only [zPu];rfl))
     | (apply walk_is rfl rfl rfl
        · (intro wx hwx;first|((with_reducible show qGl);exact zK (hm.ext hwx))|(go_simp;(try go_bits);first|exact gives_same|exact gives_skip|with_reducible exact gives_call (B0.out wx)|exact gives_call (B1.out wx (hx0.trans hwx))))
        · (simp only [zPu];rfl))
     | (apply walk_not rfl rfl rfl
        · (simp only [zPu];rfl)))
 intro wz hwz
 simp only [zZi]
 repeat (first|rw [fin_is]|(rw [fin_cons];intro _ _))
 rw [fin_nil]
 try (replace hm:=hm.ext hwz)
 simp only [zPu]
 clear r1 d0 hx0
 go_wp2_with (first|((with_reducible show qSt);refine zE hm ?_;clear hm;intro w hm))
 have r1:=fun wx (hwx:Ext w wx)=>R1.out wx (hm.x.trans hwx)
 have d0:=fun wx (hwx:Ext w wx)=>DL.out.ext (hm.x.trans hwx)
 have hx0:=hm.x
 refine rgE 13 47 ?_
 simp only [zTa]
 repeat (first
     | (apply walk_is rfl rfl rfl
        · (intro wx hwx;(with_reducible apply gq_row1 ((r1) wx hwx));infer_instance;exact rfl;exact P0.out)
        · (simp only [zPu];rfl))
     | (apply walk_is rfl rfl rfl
        · (intro wx hwx;(with_reducible apply gq_row1 ((r1) wx hwx));infer_instance;exact rfl;exact P1.out)
        · (simp only [zPu];rfl))
     | (apply walk_is rfl rfl rfl
        · (intro wx hwx;(with_reducible apply gq_rdW ((d0) wx hwx));infer_instance;exact rfl;(focus (first|rfl|omega|(simp;done)|(simp;omega))))
        · (simp only [zPu];rfl))
     | (apply walk_is rfl rfl rfl
        · (intro wx hwx;first|((with_reducible show qGl);exact zK (hm.ext hwx))|(go_simp;(try go_bits);first|exact gives_same|exact gives_skip|with_reducible exact gives_call (B2.out wx (hx0.trans hwx))))
        · (simp only [zPu];rfl))
     | (apply walk_not rfl rfl rfl
        · (simp only [zPu];rfl)))
 intro wz hwz
 simp only [zZi]
 repeat (first|rw [fin_is]|(rw [fin_cons];intro _ _))
 rw [fin_nil]
 try (replace hm:=hm.ext hwz)
 simp only [zPu]
 clear r1 d0 hx0
 go_wp2_with (first|((with_reducible show qSt);refine zE hm ?_;clear hm;intro w hm))
 refine rtO hm rfl rfl ⟨rfl,hm.x⟩
abbrev P64(l:List (BitVec 64)):Value:= .agg (l.map v64).toArray
abbrev P32(l:List (BitVec 32)):Value:= .agg (l.map v32).toArray
def cr1(V:List (BitVec 64))(c:BitVec 64)(i:Nat):List (BitVec 64):=setN V i (nth V i+c)
def cr2(V:List (BitVec 64))(i:Nat):List (BitVec 64):=setN V i (nth V i&&&67108863#64)
def crF(l:List (BitVec 64)):Nat→List (BitVec 64)×BitVec 64
 |0=>(l,0#64)
 |i+1=>(cr2 (cr1 (crF l i).1 (crF l i).2 i) i,nth (cr1 (crF l i).1 (crF l i).2 i) i>>>26)
theorem crF_length(l:List (BitVec 64))(i:Nat):(crF l i).1.length=l.length:=by
 induction i with
 |zero=>rfl
 |succ i ih=>rw [crF,cr2,cr1,setN_length,setN_length,ih]
def carL(l:List (BitVec 64)):List (BitVec 64):=setN (crF l 5).1 0 (nth (crF l 5).1 0+5#64*(crF l 5).2)
theorem carL_length(l:List (BitVec 64)):(carL l).length=l.length:=by rw [carL,setN_length,crF_length]
theorem carried_any(l:List (BitVec 64))(hl:l.length=5)(w0:World):Gives Tryz.prog 207 #[P64 l] w0 (P64 (carL l)):=by
 unfold Gives
 have hm:=Own.start w0
 have HL:=hid fun i=>(show(crF l i).1.length=5 from by rw [crF_length];exact hl)
 have EC:=hid (show carL l=setN (crF l 5).1 0 (nth (crF l 5).1 0+5#64*(crF l 5).2)from rfl)
 have h1:=Nat.le_of_eq hl
 have h2:=Nat.le_of_eq hl.symm
 have lC:=carL_length l
 rw [hl]at lC
 have C0:Hid ((crF l 0).1=l∧(crF l 0).2=0#64):=hid ⟨rfl,rfl⟩
 clear hl
 go_enter Tryz.func207,Tryz.ntmps207
 go_wp2_with (first|((first|((with_reducible show qAl);refine zG hm ?_)|((with_reducible show qBx);refine zH hm ?_));clear hm;(first|(have hx_:=g1;clear hx_;(first|(have hx_:=g2;clear hx_;intro gx_)|intro g2))|intro g1);intro w hm))
 go_loopw [3,5] (fun c i wr=>∃k:Nat,k≤5∧i= .int .i64 k∧c=v64 (crF l k).2∧Own w0 wr [⟨g2,285,(zer (n:=64) 5).map v64⟩,⟨g1,285,(crF l k).1.map v64⟩]) (fun _ i _=>5-(intOf i).toNat)
 case atStart=>exact⟨0,by omega,rfl,rfl,hm⟩
 case round=>
   obtain⟨k,hk,rfl,rfl,hm⟩:=hrel
   have lV:=HL.out k
   by_cases hlt:k<5
   · have hd:decide ((k:Int)<5)=true:=decide_eq_true (by omega)
     have hd2:(k:Int)<5:=by omega
     have E1:Hid ((crF l (k+1)).1=cr2 (cr1 (crF l k).1 (crF l k).2 k) k):=hid rfl
     have E2:Hid ((crF l (k+1)).2=nth (cr1 (crF l k).1 (crF l k).2 k) k>>>26):=hid rfl
     generalize (crF l k).1=V at*
     generalize (crF l k).2=C at*
     go_wp2_with (first|((with_reducible show qLd);refine zA hm ?_)|((with_reducible show qSt);refine zD hm ?_;clear hm;intro w hm))
     go_roundw
     case rel=>exact⟨k+1,by omega,by go_num,by rw [E2.out];rfl,by rw [E1.out];exact hm⟩
     case measure=>simp [intOf]<;>omega
   · obtain rfl:k=5:=by omega
     have hd:decide (((5:Nat):Int)<5)=false:=decide_eq_false (by omega)
     go_wp2_with (first|((with_reducible show qLd);first|(refine zA hm ?_)|(refine zB hm ?_))|((((with_reducible show qSt);first|(refine zD hm ?_)|(refine zE hm ?_)));clear hm;intro w hm))
     replace hm:Own w0 w [⟨g2,285,(setN (crF l 5).1 0 (nth (crF l 5).1 0+5#64*(crF l 5).2)).map v64⟩,⟨g1,285,(setN (crF l 5).1 0 (nth (crF l 5).1 0+5#64*(crF l 5).2)).map v64⟩]:=hm
     rw [←EC.out]at hm
     refine rtO hm rfl rfl ⟨rfl,hm.x⟩
def looL(l:List (BitVec 32)):List (BitVec 64):=tab 5 fun i=>(nth l i).setWidth 64
theorem looL_length(l:List (BitVec 32)):(looL l).length=5:=tab_length
theorem ploose_any(l:List (BitVec 32))(hl:l.length=5)(w0:World):Gives Tryz.prog 208 #[P32 l] w0 (P64 (looL l)):=by
 unfold Gives
 have hm:=Own.start w0
 have h1:=Nat.le_of_eq hl
 have h2:=Nat.le_of_eq hl.symm
 clear hl
 go_enter Tryz.func208,Tryz.ntmps208
 go_wp2_with (first|((first|((with_reducible show qAl);refine zG hm ?_)|((with_reducible show qBx);refine zH hm ?_));clear hm;(first|(have hx_:=g1;clear hx_;(first|(have hx_:=g2;clear hx_;(first|(have hx_:=g3;clear hx_;intro gx_)|intro g3))|intro g2))|intro g1);intro w hm))
 go_loopw [5] (fun i wr=>∃k:Nat,k≤5∧i= .int .i64 k∧Own w0 wr [⟨g3,285,(part (n:=64) 5 k (fun i=>(nth l i).setWidth 64) fun _=>0).map v64⟩,⟨g2,285,(zer (n:=64) 5).map v64⟩,⟨g1,276,l.map v32⟩]) (fun i _=>5-(intOf i).toNat)
 case atStart=>exact⟨0,by omega,rfl,by rw [←zer_start];exact hm⟩
 case round=>
   obtain⟨k,hk,rfl,hm⟩:=hrel
   by_cases hlt:k<5
   · have hd:decide ((k:Int)<5)=true:=decide_eq_true (by omega)
     have hd2:(k:Int)<5:=by omega
     go_wp2_with (first|((with_reducible show qLd);refine zA hm ?_)|((with_reducible show qSt);refine zD hm ?_;clear hm;intro w hm))
     go_roundw
     case rel=>
       rw [part_set' hlt rfl]at hm
       exact⟨k+1,by omega,by go_num,hm⟩
     case measure=>simp [intOf]<;>omega
   · obtain rfl:k=5:=by omega
     have hd:decide (((5:Nat):Int)<5)=false:=decide_eq_false (by omega)
     rw [part_all]at hm
     go_wp2_with (first|((with_reducible show qLd);refine zB hm ?_)|((with_reducible show qSt);refine zE hm ?_;clear hm;intro w hm))
     refine rtO hm rfl rfl ⟨rfl,hm.x⟩
theorem run_part_v64 {P:Program}(w:World)(e:TypeId)(k:IntKind)(he:P.underlying e=some (.int k))(l:List (BitVec 64))(i:Nat)(hi:i<l.length):(Go.part e (l.map v64).toArray i).run P w= .ok (v64 (l.getD i 0)) w:=by
 simp [Go.part,isAgg,run_underlying he,hi]
theorem eq_loop64(P:Program)(w:World)(f:Nat→Option Bool×Unit→Sem (ForInStep (Option Bool×Unit)))(l m:List (BitVec 64))(n:Nat)(hl:l.length=n)(hm:m.length=n)
   (hf:∀i s,i<n→(f i s).run P w= .ok (if l.getD i 0==m.getD i 0 then .yield (none,())else .done (some false,())) w):
   ∀k a,a+k=n→(forIn (List.range' a k) ((none:Option Bool),()) f).run P w= .ok (if l.drop a==m.drop a then(none,())else(some false,())) w:=by
 intro k
 induction k with
 | zero=>
   intro a ha
   have e1:l.drop a=[]:=List.drop_eq_nil_of_le (by omega)
   have e2:m.drop a=[]:=List.drop_eq_nil_of_le (by omega)
   rw [e1,e2]
   simp
 | succ k ih=>
   intro a ha
   have hla:a<l.length:=by omega
   have hma:a<m.length:=by omega
   simp only [List.range'_succ,List.forIn_cons,Sem.run_bind,hf a _ (by omega)]
   have e1:l.drop a=l.getD a 0::l.drop (a+1):=by rw [List.drop_eq_getElem_cons hla];simp [hla]
   have e2:m.drop a=m.getD a 0::m.drop (a+1):=by rw [List.drop_eq_getElem_cons hma];simp [hma]
   rw [e1,e2]
   by_cases h:l.getD a 0=m.getD a 0
   · rw [h]
     have:=ih (a+1) (by omega)
     simp only [beq_self_eq_true,if_true,Result.andThen_ok,this]
     simp
   · have hb:(l.getD a 0==m.getD a 0)=false:=by simpa using h
     rw [hb]
     have hc:(l.getD a 0::l.drop (a+1)==m.getD a 0::m.drop (a+1))=false:=by
       rw [beq_eq_false_iff_ne];intro e;exact h (List.cons.inj e).1
     rw [hc]
     simp only [Result.andThen_ok,Bool.false_eq_true,if_false,Sem.run_pure]
theorem run_equalIn_64s {P:Program}(w:World)(d:Nat)(T e:TypeId)(n:Nat)(l m:List (BitVec 64))(hT:P.underlying T=some (.array n e))(he:P.underlying e=some (.int .u64))(hs:(P.info? e).map (·.size)=some 1)(hl:l.length=n)(hm:m.length=n):
   (Op.equalIn (d+2) T (.agg (l.map v64).toArray) (.agg (m.map v64).toArray)).run P w= .ok (l==m) w:=by
 obtain⟨i,hi1,hi2⟩:=Option.map_eq_some_iff.1 hs
 rw [Op.equalIn]
 simp only [Sem.run_bind,run_underlying hT,Result.andThen_ok,sizeOf,typeInfo,run_program,hi1,Sem.run_pure,hi2,Std.Legacy.Range.forIn_eq_forIn_range',Nat.mul_one,Std.Legacy.Range.size,Nat.sub_zero,Nat.add_sub_cancel,Nat.div_one]
 rw [eq_loop64 P w _ l m n hl hm ?hf n 0 (by omega)]
 case hf=>
   intro j s hj
   simp only [Sem.run_bind,run_part_v64 w e .u64 he l j (by omega),run_part_v64 w e .u64 he m j (by omega),Result.andThen_ok]
   rw [run_equalIn64 e _ _ P w d .u64 he]
   cases l.getD j 0==m.getD j 0<;>simp
 · simp only [dZe]
   cases l==m<;>simp
end Go.Proofs.YtneacgpmjlocjaaGreatDoor
