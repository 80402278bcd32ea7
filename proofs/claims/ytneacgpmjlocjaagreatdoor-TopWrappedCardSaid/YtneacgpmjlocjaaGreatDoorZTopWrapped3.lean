/-
  Texts of the program, walked, and plain ones. Conditions: those written in each theorem.
-/
import Derived.Test.YtneacgpmjlocjaaGreatDoorZTopWrapped0
import Derived.Test.YtneacgpmjlocjaaGreatDoorZTopWrapped2
import Derived.Test.YtneacgpmjlocjaaGreatDoorProg
import Derived.Laws.AppendOwnNone
import Derived.Deep.MidRow
import Derived.WalkMore
import Derived.ScopeJumps
set_option linter.unusedSimpArgs false
set_option linter.unusedVariables false
set_option maxHeartbeats 16000000
namespace Go.Proofs.YtneacgpmjlocjaaGreatDoor
open Go Go.RowKit
set_option maxRecDepth 100000
def gb(l:List Byte)(j:Int):Byte:=if 0≤j then l.getD j.toNat 0 else 0
theorem gb_neg(l:List Byte)(j:Int)(h:j<0):gb l j=0:=by unfold gb;rw [if_neg (by omega)]
theorem gb_past(l:List Byte)(j:Int)(h:(l.length:Int)≤j):gb l j=0:=by
 unfold gb;rw [if_pos (by omega),List.getD_eq_getElem?_getD,List.getElem?_eq_none (by omega)];rfl
theorem gb_in(l:List Byte)(i:Nat):gb l i=l.getD i 0:=by unfold gb;rw [if_pos (by omega)];rfl
def num(l:List Byte)(at_:Int):Nat→BitVec 64
 |0=>0
 |m+1=>num l at_ m|||((gb l (at_+m)).setWidth 64<<<(8*m))
theorem from1_any(l:List Byte)(p:Option Addr)(c:Nat)(at_ k:Int)(x y:Addr)(w:World)(h:RdB w p l)(hl:l.length≤140737488355328)(hk0:0≤k)(hk:k≤1000)(ha: -9223372036854775808≤at_)(hb:at_≤9223372036854775807)
   (hx:w.cell? x=some (.int .i64 at_)) (hy:w.cell? y=some (.slice p l.length c)):
   Calls Tryz.prog 130 #[.int .i64 k, .pointer (some x), .pointer (some y)] w fun e w'=>e= .returned (v8 (gb l (at_+k)))∧w=w':=by
 by_cases h1:at_< -k
 · rw [gb_neg l _ (by omega)]
   clear h
   by_cases h3:(l.length:Int)-1-k<at_
   all_goals
     go_enter Tryz.func130,Tryz.ntmps130
     go_wp2
     go_ret
     exact⟨rfl,rfl⟩
 · by_cases h2:(l.length:Int)≤at_+k
   · rw [gb_past l _ h2]
     clear h
     have h3:(l.length:Int)-1-k<at_:=by omega
     go_enter Tryz.func130,Tryz.ntmps130
     go_wp2
     go_ret
     exact⟨rfl,rfl⟩
   · have hs:=h.isSome (at_+k).toNat (by omega)
     have hc:=h.at (at_+k).toNat (by omega)
     have h3:¬(l.length:Int)-1-k<at_:=by omega
     have e:gb l (at_+k)=l.getD (at_+k).toNat 0:=by unfold gb;rw [if_pos (by omega)]
     rw [e]
     clear h e
     go_enter Tryz.func130,Tryz.ntmps130
     go_wp2
     go_ret
     exact⟨rfl,rfl⟩
@[local go_sem] theorem conv_8_64 (x : BitVec 8) (w : World) : (convert 5 25 (v8 x)).run Tryz.prog w = .ok (v64 (x.setWidth 64)) w := conv8_64 x _ _ _ w rfl rfl
theorem gather_any(l:List Byte)(p:Option Addr)(c:Nat)(at_:Int)(x y:Addr)(m:Nat)(w:World)(h:RdB w p l)(hl:l.length≤140737488355328)(hm:m≤8)(ha: -9223372036854775808≤at_)(hb:at_≤9223372036854775807)
   (hx:w.cell? x=some (.int .i64 at_)) (hy:w.cell? y=some (.slice p l.length c)):
   Calls Tryz.prog 104 #[.int .i64 m, .func (.func 130) #[] #[.pointer (some x), .pointer (some y)]] w fun e w'=>e= .returned (v64 (num l at_ m))∧w=w':=by
 go_enter Tryz.func104,Tryz.ntmps104
 go_wp2
 go_loop [5,8] (fun n i=>∃k:Nat,k≤m∧i= .int .i64 k∧n=v64 (num l at_ k)) (fun _ i=>m-(intOf i).toNat)
 case atStart=>exact⟨0,Nat.zero_le _,rfl,rfl⟩
 case round=>
   obtain⟨k,hk,rfl,rfl⟩:=hrel
   by_cases hlt:k<m
   · go_wp2_with (go_at_call 130;refine(from1_any l p c at_ k x y _ h hl (by omega) (by omega) ha hb hx hy).mono ?_;rintro e w' ⟨rfl,rfl⟩)
     go_round
     case rel=>exact⟨k+1,by omega,by go_num,by rw [num]⟩
     case measure=>simp [intOf]<;>omega
   · obtain rfl:k=m:=by omega
     go_wp2
     go_ret
     exact⟨rfl,rfl⟩
theorem gather4(l:List Byte)(p:Option Addr)(c:Nat)(at_:Int)(x y:Addr)(w:World)(h:RdB w p l)(hl:l.length≤140737488355328)(ha: -9223372036854775808≤at_)(hb:at_≤9223372036854775807)
   (hx:w.cell? x=some (.int .i64 at_)) (hy:w.cell? y=some (.slice p l.length c)):
   Calls Tryz.prog 104 #[.int .i64 4, .func (.func 130) #[] #[.pointer (some x), .pointer (some y)]] w fun e w'=>e= .returned (v64 (num l at_ 4))∧w=w':=
 gather_any l p c at_ x y 4 w h hl (by omega) ha hb hx hy
theorem gather8(l:List Byte)(p:Option Addr)(c:Nat)(at_:Int)(x y:Addr)(w:World)(h:RdB w p l)(hl:l.length≤140737488355328)(ha: -9223372036854775808≤at_)(hb:at_≤9223372036854775807)
   (hx:w.cell? x=some (.int .i64 at_)) (hy:w.cell? y=some (.slice p l.length c)):
   Calls Tryz.prog 104 #[.int .i64 8, .func (.func 130) #[] #[.pointer (some x), .pointer (some y)]] w fun e w'=>e= .returned (v64 (num l at_ 8))∧w=w':=
 gather_any l p c at_ x y 8 w h hl (by omega) ha hb hx hy
@[local go_sem] theorem conv_64_32 (x : BitVec 64) (w : World) : (convert 25 70 (v64 x)).run Tryz.prog w = .ok (v32 (x.setWidth 32)) w := conv64_32 x _ _ _ w rfl rfl
theorem word_any(l:List Byte)(p:Option Addr)(c:Nat)(at_:Int)(w:World)(h:RdB w p l)(hl:l.length≤140737488355328)(ha: -9223372036854775808≤at_)(hb:at_≤9223372036854775807):
   Gives Tryz.prog 84 #[.slice p l.length c, .int .i64 at_] w (v32 ((num l at_ 4).setWidth 32)):=by
 unfold Gives
 have h':=h.ext (((Ext.refl w).alloc (.cells #[.slice p l.length c] 22)).alloc (.cells #[.int .i64 at_] 3))
 have hx:((w.alloc (.cells #[.slice p l.length c] 22)).alloc (.cells #[.int .i64 at_] 3)).cell? ⟨w.heap.size+1,0,none⟩=some (.int .i64 at_):=by simp
 have hy:((w.alloc (.cells #[.slice p l.length c] 22)).alloc (.cells #[.int .i64 at_] 3)).cell? ⟨w.heap.size,0,none⟩=some (.slice p l.length c):=by simp
 go_enter Tryz.func84,Tryz.ntmps84
 go_wp2_with (first|(go_at_call 104;refine(gather4 l p c at_ _ _ _ h' hl ha hb hx hy).mono ?_;rintro e w' ⟨rfl,rfl⟩)|go_in)
 go_ret
 exact⟨rfl,((Ext.refl w).alloc _).alloc _⟩
theorem long_any(l:List Byte)(p:Option Addr)(c:Nat)(at_:Int)(w:World)(h:RdB w p l)(hl:l.length≤140737488355328)(ha: -9223372036854775808≤at_)(hb:at_≤9223372036854775807):
   Gives Tryz.prog 146 #[.slice p l.length c, .int .i64 at_] w (v64 (num l at_ 8)):=by
 unfold Gives
 have h':=h.ext (((Ext.refl w).alloc (.cells #[.slice p l.length c] 22)).alloc (.cells #[.int .i64 at_] 3))
 have hx:((w.alloc (.cells #[.slice p l.length c] 22)).alloc (.cells #[.int .i64 at_] 3)).cell? ⟨w.heap.size+1,0,none⟩=some (.int .i64 at_):=by simp
 have hy:((w.alloc (.cells #[.slice p l.length c] 22)).alloc (.cells #[.int .i64 at_] 3)).cell? ⟨w.heap.size,0,none⟩=some (.slice p l.length c):=by simp
 go_enter Tryz.func146,Tryz.ntmps146
 go_wp2_with (first|(go_at_call 104;refine(gather8 l p c at_ _ _ _ h' hl ha hb hx hy).mono ?_;rintro e w' ⟨rfl,rfl⟩)|go_in)
 go_ret
 exact⟨rfl,((Ext.refl w).alloc _).alloc _⟩
abbrev WV(lo hi:BitVec 64):Value:= .agg #[v64 lo,v64 hi]
@[local go_sem] theorem build_wide (a b : BitVec 64) (w : World) : (Instr.build 191 #[(0, v64 a), (1, v64 b)]).run Tryz.prog w = .ok (WV a b) w := by kernel_rfl
theorem load_any(l:List Byte)(p:Option Addr)(c:Nat)(w:World)(h:RdB w p l)(hl:l.length≤140737488355328):
   Gives Tryz.prog 183 #[.slice p l.length c] w (WV (num l 0 8) (num l 8 8)):=by
 unfold Gives
 have h1:Ext w (w.alloc (.cells [Value.int .u64 0, .int .u64 0].toArray 191)):=(Ext.refl w).alloc _
 go_enter Tryz.func183,Tryz.ntmps183
 go_wp2_with fail
 refine(long_any l p c 0 _ (h.ext h1) hl (by omega) (by omega)).mono ?_
 rintro e w1 ⟨rfl,hx1⟩
 go_wp2_with fail
 refine(long_any l p c 8 _ (h.ext (h1.trans hx1)) hl (by omega) (by omega)).mono ?_
 rintro e w2 ⟨rfl,hx2⟩
 have hres:=row_ext (row_ext (row_new w 191 [Value.int .u64 0, .int .u64 0]) hx1) hx2
 go_wp2_with (with_reducible show wpList _ _ _ _ _ _;refine wpl_store_row (cs:=[v64 (num l 0 8),v64 (num l 8 8)]) rfl rfl rfl rfl hres rfl (by kernel_rfl) (by simp [one64]) ?_)
 refine ret_row rfl rfl (row_setRow hres _) rfl rfl (by kernel_rfl) rfl ⟨rfl, ?_⟩
 exact ext_setRow (h1.trans (hx1.trans hx2)) _ _ (by omega)
def blk(l:List Byte):List Byte:=(List.range 16).map fun (i:Nat)=>gb l i
def blkTo(l:List Byte)(k:Nat):List Byte:=(List.range 16).map fun (i:Nat)=>if i<k then gb l i else 0
theorem blk_length(l:List Byte):(blk l).length=16:=by simp [blk]
theorem over_blk(l:List Byte):over (List.replicate 16 0) 0 (l.take 16)=blk l:=by
 apply List.ext_getElem
 · rw [over_length _ _ _ (by simp;omega),blk_length];simp
 · intro i h1 h2
   have hi:i<16:=by rw [blk_length]at h2;exact h2
   simp only [over,tZe,List.nil_append,Nat.zero_add,blk,List.getElem_map,List.getElem_range,gb_in,List.getD_eq_getElem?_getD]
   by_cases h:i<l.length
   · rw [List.getElem_append_left (by simp;omega)]
     simp [h]
   · rw [List.getElem_append_right (by simp;omega)]
     simp only [List.getElem_drop,List.getElem_replicate,List.getElem?_eq_none (show l.length≤i by omega),Option.getD_none]
theorem oblock_any(l:List Byte)(p:Option Addr)(c:Nat)(w:World)(h:RdB w p l):
   Gives Tryz.prog 69 #[.slice p l.length c] w (A8 (blk l)):=by
 unfold Gives
 have hz:Ext w ((w.alloc (.cells #[Value.int IntKind.u8 0,Value.int IntKind.u8 0,Value.int IntKind.u8 0,Value.int IntKind.u8 0,Value.int IntKind.u8 0,Value.int IntKind.u8 0,Value.int IntKind.u8 0,Value.int IntKind.u8 0,Value.int IntKind.u8 0,Value.int IntKind.u8 0,Value.int IntKind.u8 0,Value.int IntKind.u8 0,Value.int IntKind.u8 0,Value.int IntKind.u8 0,Value.int IntKind.u8 0,Value.int IntKind.u8 0] 132)).alloc (.cells #[Value.int IntKind.u8 0,Value.int IntKind.u8 0,Value.int IntKind.u8 0,Value.int IntKind.u8 0,Value.int IntKind.u8 0,Value.int IntKind.u8 0,Value.int IntKind.u8 0,Value.int IntKind.u8 0,Value.int IntKind.u8 0,Value.int IntKind.u8 0,Value.int IntKind.u8 0,Value.int IntKind.u8 0,Value.int IntKind.u8 0,Value.int IntKind.u8 0,Value.int IntKind.u8 0,Value.int IntKind.u8 0] 132)):=((Ext.refl w).alloc _).alloc _
 have hr1:Row ((w.alloc (.cells #[Value.int IntKind.u8 0,Value.int IntKind.u8 0,Value.int IntKind.u8 0,Value.int IntKind.u8 0,Value.int IntKind.u8 0,Value.int IntKind.u8 0,Value.int IntKind.u8 0,Value.int IntKind.u8 0,Value.int IntKind.u8 0,Value.int IntKind.u8 0,Value.int IntKind.u8 0,Value.int IntKind.u8 0,Value.int IntKind.u8 0,Value.int IntKind.u8 0,Value.int IntKind.u8 0,Value.int IntKind.u8 0] 132)).alloc (.cells #[Value.int IntKind.u8 0,Value.int IntKind.u8 0,Value.int IntKind.u8 0,Value.int IntKind.u8 0,Value.int IntKind.u8 0,Value.int IntKind.u8 0,Value.int IntKind.u8 0,Value.int IntKind.u8 0,Value.int IntKind.u8 0,Value.int IntKind.u8 0,Value.int IntKind.u8 0,Value.int IntKind.u8 0,Value.int IntKind.u8 0,Value.int IntKind.u8 0,Value.int IntKind.u8 0,Value.int IntKind.u8 0] 132)) (w.heap.size+1) 132 ((List.replicate 16 (0:Byte)).map v8):=heap_alloc2_new _ _ _
 have hr0:Row ((w.alloc (.cells #[Value.int IntKind.u8 0,Value.int IntKind.u8 0,Value.int IntKind.u8 0,Value.int IntKind.u8 0,Value.int IntKind.u8 0,Value.int IntKind.u8 0,Value.int IntKind.u8 0,Value.int IntKind.u8 0,Value.int IntKind.u8 0,Value.int IntKind.u8 0,Value.int IntKind.u8 0,Value.int IntKind.u8 0,Value.int IntKind.u8 0,Value.int IntKind.u8 0,Value.int IntKind.u8 0,Value.int IntKind.u8 0] 132)).alloc (.cells #[Value.int IntKind.u8 0,Value.int IntKind.u8 0,Value.int IntKind.u8 0,Value.int IntKind.u8 0,Value.int IntKind.u8 0,Value.int IntKind.u8 0,Value.int IntKind.u8 0,Value.int IntKind.u8 0,Value.int IntKind.u8 0,Value.int IntKind.u8 0,Value.int IntKind.u8 0,Value.int IntKind.u8 0,Value.int IntKind.u8 0,Value.int IntKind.u8 0,Value.int IntKind.u8 0,Value.int IntKind.u8 0] 132)) w.heap.size 132 ((List.replicate 16 (0:Byte)).map v8):=heap_alloc2_old _ _ _
 have hb:=h.ext hz
 have hr1':=row_setRow hr1 ((blk l).map v8)
 have hr0':=row_setRow_other hr0 ((blk l).map v8).toArray (show w.heap.size≠w.heap.size+1 by omega)
 have hz':=ext_setRow hz (w.heap.size+1) ((blk l).map v8).toArray (by omega)
 go_enter Tryz.func69,Tryz.ntmps69
 go_wp2_with (first|(with_reducible show wpList _ _ _ _ _ _;refine wpl_copy (over_blk l) rfl rfl rfl rfl rfl rfl (by kernel_rfl) hr1 (by simp) hb ?_)|(with_reducible show wpList _ _ _ _ _ _;refine wpl_load_row rfl rfl rfl hr1' rfl rfl (by kernel_rfl) ?_)|(with_reducible show wpList _ _ _ _ _ _;refine wpl_store_row rfl rfl rfl rfl hr0' (by simp [blk_length]) (by kernel_rfl) (one_v8 _) ?_))
 refine ret_row rfl rfl (row_setRow hr0' _) rfl rfl (by kernel_rfl) rfl ⟨rfl, ?_⟩
 exact ext_setRow hz' _ _ (by omega)
def roomN(n:Nat)(s:Int):Nat:=if s<1 then 0 else(s.toNat-n%s.toNat)%s.toNat
theorem roomN_lt(n:Nat)(s:Int):roomN n s≤s.toNat:=by
 unfold roomN;split
 · omega
 · exact Nat.le_of_lt (Nat.mod_lt _ (by omega))
def pad(l:List Byte)(s:Int):List Byte:=l++List.replicate (roomN l.length s) 0
def marked(l:List Byte)(m:Byte)(s:Int):List Byte:=pad (l++[m]) s
theorem room_any(n:Nat)(s:Int)(w:World)(hn:n≤281474976710656)(h0: -9223372036854775808≤s)(h1:s≤9223372036854775807):
   Calls Tryz.prog 131 #[.int .i64 n, .int .i64 s] w fun e w'=>e= .returned (.int .i64 (roomN n s))∧w=w':=by
 by_cases hs:s<1
 · have e:((roomN n s:Nat):Int)=0:=by unfold roomN;rw [if_pos hs];rfl
   rw [e]
   clear e
   go_enter Tryz.func131,Tryz.ntmps131
   go_wp2
   go_ret
   exact⟨rfl,rfl⟩
 · obtain⟨k,rfl⟩:=Int.eq_ofNat_of_zero_le (show 0≤s by omega)
   have hmod:(n:Int)%k<k:=Int.emod_lt_of_pos _ (by omega)
   have hmod0:0≤(n:Int)%k:=Int.emod_nonneg _ (by omega)
   have e:((roomN n k:Nat):Int)=((k:Int)-(n:Int)%k)%k:=by
     unfold roomN;rw [if_neg hs,Int.toNat_natCast]
     have hlt:n%k<k:=Nat.mod_lt _ (by omega)
     rw [Int.natCast_emod,Int.ofNat_sub (Nat.le_of_lt hlt),Int.natCast_emod]
   rw [e]
   clear e
   have hk:1≤(k:Int):=by omega
   have hkne:((k:Int)==0)=false:=by simp;omega
   go_enter Tryz.func131,Tryz.ntmps131
   go_wp2
   go_ret
   exact⟨rfl,rfl⟩
theorem over_pad(l:List Byte)(r:Nat):over (zeros (l.length+r)) 0 (l.take (l.length+r))=l++List.replicate r 0:=by
 unfold zeros
 rw [List.take_of_length_le (by omega)]
 simp [over]
theorem over_pad'(l:List Byte)(s:Int):over (zeros (l.length+roomN l.length s)) 0 (l.take (l.length+roomN l.length s))=pad l s:=over_pad l _
theorem info_byte:∃i,Tryz.prog.info? 5=some i∧i.zero=some (.int .u8 0)∧i.size=1∧i.bytes=1:=by
 obtain⟨i,h1,h2,h3,h4⟩:=info_parts (show(Tryz.prog.info? 5).map (fun i=>(i.zero,i.size,i.bytes))=some (some (.int .u8 0),1,1)by kernel_rfl)
 exact⟨i,h1,h2,h3,h4⟩
theorem make_b {ops:Array Oper}{Q:Exit→Act→World→Prop}{rest:List Oper}{o:Oper}{a:Act}{w:World}{x y:Operand}{N M:Int}(n:Nat)
   (hgd:Region.wanted o (yielded ops a.tmps)=true) (ho:o.op= .makeSlice 22 x y) (hx:a.eval x= .int .i64 N) (hy:a.eval y= .int .i64 M) (hN:N=(n:Int)) (hM:M=(n:Int)) (hn:n≤281474976710656)
   (h:wpList Tryz.prog ops Q rest (a.put o.dst (.slice (some ⟨w.heap.size,0,Option.none⟩) n n)) (w.alloc (.cells ((zeros n).map v8).toArray 5))):wpList Tryz.prog ops Q (o::rest) a w:=by
 obtain⟨i,hi,hz,hs,hb⟩:=info_byte
 exact wpl_make hgd ho hx hy (by kernel_rfl) hi hz hs hb hN hM hn h
theorem padded_any(l:List Byte)(p:Option Addr)(c:Nat)(s:Int)(w:World)(h:RdB w p l)(hl:l.length≤140737488355328)(h0: -9223372036854775808≤s)(h1:s≤2147483648):
   GivesR Tryz.prog 109 #[.slice p l.length c, .int .i64 s] w (BytesS (pad l s)):=by
 unfold GivesR
 have hr:=roomN_lt l.length s
 have hx:Ext w (w.alloc (.cells ((zeros (l.length+roomN l.length s)).map v8).toArray 5)):=(Ext.refl w).alloc _
 have hrow:=row_new w 5 ((zeros (l.length+roomN l.length s)).map v8)
 have hbb:=h.ext hx
 go_enter Tryz.func109,Tryz.ntmps109
 go_wp2_with (first|(go_at_call 131;refine(room_any l.length s _ (by omega) h0 (by omega)).mono ?_;rintro e w' ⟨rfl,rfl⟩)|(with_reducible show wpList _ _ _ _ _ _;refine make_b (l.length+roomN l.length s) rfl rfl rfl rfl (by omega) (by omega) (by omega) ?_)|(with_reducible show wpList _ _ _ _ _ _;refine wpl_copy (over_pad' l s) rfl rfl rfl rfl rfl rfl (by kernel_rfl) hrow (by simp [zeros_length]) hbb ?_))
 go_ret
 refine⟨_,rfl,⟨_,_, ?_,Nat.le_refl _,RdB.of_row (row_setRow hrow _)⟩,ext_setRow hx _ _ (Nat.le_refl _)⟩
 simp [pad]
def with1(l:List Byte)(m:Byte):List Byte:=l++[m]
theorem with1_length(l:List Byte)(m:Byte):(with1 l m).length=l.length+1:=by simp [with1]
theorem over_mark(l:List Byte):over (zeros (l.length+1)) 0 (l.take (l.length+1))=with1 l 0#8:=over_pad l 1
theorem set_mark(l:List Byte)(m:Byte):((with1 l 0#8).map v8).set l.length (v8 m)=(with1 l m).map v8:=by
 unfold with1
 rw [List.map_append,List.set_append_right _ _ (by simp)];simp
theorem marked_any(l:List Byte)(p:Option Addr)(c:Nat)(m:Byte)(s:Int)(w:World)(h:RdB w p l)(hl:l.length≤70368744177664)(h0: -9223372036854775808≤s)(h1:s≤2147483648):
   GivesR Tryz.prog 139 #[.slice p l.length c,v8 m, .int .i64 s] w (BytesS (marked l m s)):=by
 unfold GivesR
 have hx:Ext w (w.alloc (.cells ((zeros (l.length+1)).map v8).toArray 5)):=(Ext.refl w).alloc _
 have hrow:=row_new w 5 ((zeros (l.length+1)).map v8)
 have hbb:=h.ext hx
 have hrow2:=row_setRow hrow ((with1 l 0#8).map v8)
 have hc2:=row_v8 hrow2 l.length (by simp [with1_length])
 have hf2:=row_free hrow2 l.length
 have hrow3:=row_set hrow2 l.length (v8 m)
 rw [set_mark]at hrow3
 have hx3:=ext_setCell (ext_setRow hx w.heap.size ((with1 l 0#8).map v8).toArray (Nat.le_refl _)) ⟨w.heap.size,l.length,none⟩ (v8 m) (Nat.le_refl _)
 have hb3:=RdB.of_row hrow3
 have hp:=fun q=>padded_any (with1 l m) q (l.length+1) s
 rw [with1_length]at hp
 go_enter Tryz.func139,Tryz.ntmps139
 go_wp2_with (first|(with_reducible show wpList _ _ _ _ _ _;refine make_b (l.length+1) rfl rfl rfl rfl (by omega) (by omega) (by omega) ?_)|(with_reducible show wpList _ _ _ _ _ _;refine wpl_copy (over_mark l) rfl rfl rfl rfl rfl rfl (by kernel_rfl) hrow (by simp [zeros_length]) hbb ?_))
 refine(hp _ _ hb3 (by omega) h0 h1).mono ?_
 rintro e w' ⟨v,rfl,hv,hx'⟩
 obtain⟨p',c',rfl,hcap,hbv⟩:=hv
 go_wp2
 go_ret
 exact⟨_,rfl,⟨p',c',rfl,hcap,hbv⟩,hx3.trans hx'⟩
theorem conv_str(p:Option Addr)(l:List Byte)(c:Nat)(w:World)(h:RdB w p l):(convert 22 9 (.slice p l.length c)).run Tryz.prog w= .ok (.string (bstr l)) w:=
 run_conv_str (e:=5) (by kernel_rfl) (by kernel_rfl) (by kernel_rfl) c h
attribute [go_sem] blk_length
@[go_sem] theorem eql16 (d : Nat) (l m : List Byte) (w : World) (hl : l.length = 16) (hm : m.length = 16) : (Op.equalIn (d + 2) 132 (A8 l) (A8 m)).run Tryz.prog w = .ok (l == m) w :=
 run_equalIn_bytes w d _ 5 16 l m (by kernel_rfl) (by kernel_rfl) (by kernel_rfl) hl hm
def OwnB(w:World)(B:Nat)(v:Value)(l:List Byte):Prop:=w.ownsRow B 5 1 v l.length (l.map v8)
theorem OwnB.nil(w:World)(B:Nat):OwnB w B (.slice none 0 0) []:=World.ownsRow_nil w B _ 1
theorem OwnB.drew {w:World}{B:Nat}{v:Value}{l:List Byte}(h:OwnB w B v l):OwnB w.drew B v l:=h
theorem OwnB.alloc {w:World}{B:Nat}{v:Value}{l:List Byte}(h:OwnB w B v l)(o:Obj):OwnB (w.alloc o) B v l:=World.ownsRow.alloc h o
theorem OwnB.ext {w w':World}{B:Nat}{v:Value}{l:List Byte}(h:OwnB w B v l)(hx:Ext w w'):OwnB w' B v l:=
 World.ownsRow.kept h (row:=none) ⟨hx.os,hx.tape,hx.output,hx.size,fun k hk _=>Below.block hx k hk⟩ (by cases hv:v.ownBlock<;>simp)
theorem OwnB.reads {w:World}{B:Nat}{v:Value}{l:List Byte}(h:OwnB w B v l):BytesS l v w:=by
 obtain⟨h1,h2⟩:=h
 rcases h2 with ⟨rfl,h0⟩|⟨g,cap,cur,rfl,hg,hh,hn,hc,hs,ht⟩
 · have:l=[]:=List.eq_nil_of_length_eq_zero h0
   subst this
   exact⟨none,0,rfl,Nat.le_refl _,RdB.nil _ _⟩
 · refine⟨some ⟨g,0,none⟩,cap,rfl,hn,fun _=>rfl,fun i hi=> ?_⟩
   have e:(⟨g,0,none⟩:Addr).add i=⟨g,i,none⟩:=by simp [Addr.add];omega
   show w.cell? ((⟨g,0,none⟩:Addr).add i)=_
   rw [e,cell_of_row w g i cur _ _ hh]
   have:(cur.toList.take (l.length*1))[i]? =(l.map v8)[i]? :=by rw [ht]
   rw [List.getElem?_take,if_pos (by omega)]at this
   rw [←Array.getElem?_toList,this]
   simp [hi]
theorem OwnB.slice {w:World}{B:Nat}{v:Value}{l:List Byte}(h:OwnB w B v l):∃p c,v= .slice p l.length c∧l.length≤c∧RdB w p l:=h.reads
theorem OwnB.lt {w:World}{B:Nat}{v:Value}{l:List Byte}(h:OwnB w B v l):∀k,v.ownBlock=some k→B≤k∧k<w.heap.size:=World.ownsRow.lt h
theorem Gives.mono {P:Program}{f:FuncId}{args:Array Value}{w:World}{c:Value}(h:Gives P f args w c){Q:Ending→World→Prop}(hq:∀e w',e= .returned c∧Ext w w'→Q e w'):Calls P f args w Q:=Calls.mono h hq
theorem GivesR.mono {P:Program}{f:FuncId}{args:Array Value}{w:World}{V:Slot}(h:GivesR P f args w V){Q:Ending→World→Prop}(hq:∀e w',(∃v,e= .returned v∧V v w'∧Ext w w')→Q e w'):Calls P f args w Q:=Calls.mono h hq
structure Blk where
 g:Nat
 t:TypeId
 cs:List Value
def Own(w0 w:World)(L:List Blk):Prop:=Ext w0 w∧(L.map Blk.g).Nodup∧∀b∈L,w0.heap.size≤b.g∧Row w b.g b.t b.cs
inductive Has:List Blk→Blk→Prop
 |hd {b:Blk} {L:List Blk}:Has (b::L) b
 |tl {b c:Blk} {L:List Blk}:Has L b→Has (c::L) b
inductive Swap:List Blk→Blk→Blk→List Blk→Prop
 |hd {b b':Blk} {L:List Blk}:Swap (b::L) b b' (b'::L)
 |tl {b b' c:Blk} {L L':List Blk}:Swap L b b' L'→Swap (c::L) b b' (c::L')
theorem Has.mem {L:List Blk}{b:Blk}(h:Has L b):b∈L:=by
 induction h with
 |hd=>simp
 |tl _ ih=>simp [ih]
theorem Swap.has {L L':List Blk}{b b':Blk}(h:Swap L b b' L'):Has L b:=by
 induction h with
 |hd=>exact .hd
 |tl _ ih=>exact .tl ih
theorem Swap.keys {L L':List Blk}{b b':Blk}(h:Swap L b b' L')(hg:b'.g=b.g):L'.map Blk.g=L.map Blk.g:=by
 induction h with
 |hd=>simp [hg]
 |tl _ ih=>simp [ih hg]
theorem Swap.cases {L L':List Blk}{b b' c:Blk}(h:Swap L b b' L')(hg:b'.g=b.g)(hn:(L.map Blk.g).Nodup)(hc:c∈L'):c=b'∨(c∈L∧c.g≠b.g):=by
 induction h with
 | @hd b b' L=>
   rcases List.mem_cons.1 hc with rfl|hc
   · exact .inl rfl
   · refine .inr ⟨by simp [hc],fun e=> ?_⟩
     simp only [mCo,List.nodup_cons]at hn
     exact hn.1 (List.mem_map.2 ⟨c,hc,e⟩)
 | @tl b b' d L L' hs ih=>
   simp only [mCo,List.nodup_cons]at hn
   rcases List.mem_cons.1 hc with rfl|hc
   · refine .inr ⟨by simp,fun e=>hn.1 ?_⟩
     exact List.mem_map.2 ⟨b,hs.has.mem,e.symm⟩
   · rcases ih hg hn.2 hc with rfl|⟨h1,h2⟩
     · exact .inl rfl
     · exact .inr ⟨by simp [h1],h2⟩
theorem Own.start(w:World):Own w w []:=⟨Ext.refl w,by simp,by simp⟩
theorem Own.row {w0 w:World}{L:List Blk}{g:Nat}{t:TypeId}{cs:List Value}(h:Own w0 w L)(hh:Has L ⟨g,t,cs⟩):Row w g t cs:=(h.2.2 _ hh.mem).2
theorem Own.base {w0 w:World}{L:List Blk}{b:Blk}(h:Own w0 w L)(hh:Has L b):w0.heap.size≤b.g:=(h.2.2 _ hh.mem).1
theorem Own.x {w0 w:World}{L:List Blk}(h:Own w0 w L):Ext w0 w:=h.1
theorem Own.ext {w0 w w':World}{L:List Blk}(h:Own w0 w L)(hx:Ext w w'):Own w0 w' L:=⟨h.1.trans hx,h.2.1,fun b hb=>⟨(h.2.2 b hb).1,row_ext (h.2.2 b hb).2 hx⟩⟩
theorem Own.drew {w0 w:World}{L:List Blk}(h:Own w0 w L):Own w0 w.drew L:=h.ext (drew_ext w)
theorem Own.push {w0 w1 w:World}{L:List Blk}{g:Nat}{t:TypeId}{cs:List Value}(h:Own w0 w1 L)(hx:Ext w1 w)(hg:w1.heap.size≤g)(hr:Row w g t cs):Own w0 w (⟨g,t,cs⟩::L):=by
 refine⟨h.1.trans hx, ?_,fun b hb=> ?_⟩
 · simp only [mCo,List.nodup_cons]
   refine⟨fun hm=> ?_,h.2.1⟩
   obtain⟨b,hb,e⟩:=List.mem_map.1 hm
   have:=row_lt (h.2.2 b hb).2
   omega
 · rcases List.mem_cons.1 hb with rfl|hb
   · exact⟨by have:=h.1.size;simp only;omega,hr⟩
   · exact⟨(h.2.2 b hb).1,row_ext (h.2.2 b hb).2 hx⟩
theorem Own.add {w0 w:World}{L:List Blk}{g:Nat}{t:TypeId}{cs:List Value}(h:Own w0 w L)(hg:w0.heap.size≤g)(hn:∀b∈L,b.g≠g)(hr:Row w g t cs):Own w0 w (⟨g,t,cs⟩::L):=by
 refine⟨h.1, ?_,fun b hb=> ?_⟩
 · simp only [mCo,List.nodup_cons]
   refine⟨fun hm=> ?_,h.2.1⟩
   obtain⟨b,hb,e⟩:=List.mem_map.1 hm
   exact hn b hb e
 · rcases List.mem_cons.1 hb with rfl|hb
   · exact⟨hg,hr⟩
   · exact h.2.2 b hb
theorem Own.lt {w0 w:World}{L:List Blk}(h:Own w0 w L):∀b∈L,b.g<w.heap.size:=fun b hb=>row_lt (h.2.2 b hb).2
theorem Own.push2 {w0 w1 w:World}{L:List Blk}{g k:Nat}{t u:TypeId}{cs ds:List Value}(h:Own w0 w1 L)(hx:Ext w1 w)(hg:w1.heap.size≤g)(hr:Row w g t cs)(hk:w1.heap.size≤k)(hs:Row w k u ds)(hne:g≠k):Own w0 w (⟨k,u,ds⟩::⟨g,t,cs⟩::L):=by
 have h1:=h.push hx hg hr
 refine h1.add (by have:=h.1.size;omega) (fun b hb=> ?_) hs
 rcases List.mem_cons.1 hb with rfl|hb
 · exact hne
 · have:=h.lt b hb;omega
theorem Own.alloc {w0 w:World}{L:List Blk}(h:Own w0 w L)(t:TypeId)(cs:List Value):Own w0 (w.alloc (.cells cs.toArray t)) (⟨w.heap.size,t,cs⟩::L):=
 h.push ((Ext.refl w).alloc _) (Nat.le_refl _) (row_new w t cs)
theorem Own.drop {w0 w:World}{b:Blk}{L:List Blk}(h:Own w0 w (b::L)):Own w0 w L:=⟨h.1,(List.nodup_cons.1 h.2.1).2,fun c hc=>h.2.2 c (by simp [hc])⟩
theorem Own.rebase {w00 w0 w:World}{L:List Blk}(h:Own w0 w L)(hx:Ext w00 w0):Own w00 w L:=⟨hx.trans h.1,h.2.1,fun b hb=>⟨Nat.le_trans hx.size (h.2.2 b hb).1,(h.2.2 b hb).2⟩⟩
theorem Own.turn {w0 w:World}{L L':List Blk}{g:Nat}{t:TypeId}{cs cs':List Value}(h:Own w0 w L)(hs:Swap L ⟨g,t,cs⟩ ⟨g,t,cs'⟩ L'):Own w0 (w.setRow g cs'.toArray) L':=by
 have hr:Row w g t cs:=h.row hs.has
 have hb:w0.heap.size≤g:=h.base hs.has
 refine⟨ext_setRow h.1 g _ hb,by rw [hs.keys rfl];exact h.2.1,fun c hc=> ?_⟩
 rcases hs.cases rfl h.2.1 hc with rfl|⟨h1,h2⟩
 · exact⟨hb,row_setRow hr cs'⟩
 · exact⟨(h.2.2 c h1).1,row_setRow_other (h.2.2 c h1).2 _ h2⟩
theorem Own.rdB {w0 w:World}{L:List Blk}{g:Nat}{t:TypeId}{l:List Byte}(h:Own w0 w L)(hh:Has L ⟨g,t,l.map v8⟩):RdB w (some ⟨g,0,none⟩) l:=RdB.of_row (h.row hh)
theorem Own.rdB_at {w0 w:World}{L:List Blk}{g k:Nat}{t:TypeId}{l:List Byte}(h:Own w0 w L)(hh:Has L ⟨g,t,l.map v8⟩):RdB w (some ⟨g,k,none⟩) (l.drop k):=
 ⟨fun _=>rfl,fun i hi=>by
   rw [List.length_drop]at hi
   show w.cell? ((⟨g,k,none⟩:Addr).add i)=_
   rw [Addr.add_mid,row_v8 (h.row hh) (k+i) (by omega)]
   simp [List.getElem?_drop]⟩
theorem RdB.take {w:World}{p:Option Addr}{l:List Byte}(h:RdB w p l)(n:Nat):RdB w p (l.take n):=
 ⟨fun hp=>h.1 (by simp at hp;omega),fun i hi=>by
   simp only [List.length_take]at hi
   rw [h.2 i (by omega)]
   simp [List.getElem?_take,show i<n by omega]⟩
/-! ### The model's own steps -/
section
variable {P:Program} {w0 w:World} {L L':List Blk} {g k:Nat} {t T:TypeId} {cs:List Value} {v:Value}
class One1 (P:Program) (T:TypeId):Prop where
 size:(P.info? T).map (·.size)=some 1
 row:((P.underlying T).map fun d=>d.isRow)=some false
class Many (P:Program) (T:TypeId) (n:outParam Nat):Prop where
 size:(P.info? T).map (·.size)=some n
 row:((P.underlying T).map fun d=>d.isRow)=some true
theorem run_ld1(h:Own w0 w L)(hh:Has L ⟨g,t,cs⟩)[hT:One1 P T](hv:cs[k]? =some v):(Instr.loadAt T (.pointer (some ⟨g,k,none⟩))).run P w= .ok v w:=by
 have hc:w.cell? ⟨g,k,none⟩=some v:=by rw [row_cell (h.row hh) k];exact hv
 obtain⟨d,hu,hd⟩:=Option.map_eq_some_iff.1 hT.row
 have hagg:(isAgg T).run P w= .ok false w:=by
   unfold isAgg
   rw [Sem.run_bind,run_underlying hu w]
   cases d<;>simp_all
 simp [Instr.loadAt,Instr.sureAddr,loadVar,Sem.run_bind,hagg,hc]
theorem run_ldN {n:Nat}{cs':List Value}(h:Own w0 w L)(hh:Has L ⟨g,t,cs⟩)[hT:Many P T n](hv:(cs.drop k).take n=cs')(hn:cs'.length=n):(Instr.loadAt T (.pointer (some ⟨g,k,none⟩))).run P w= .ok (.agg cs'.toArray) w:=by
 obtain⟨d,hu,hd⟩:=Option.map_eq_some_iff.1 hT.row
 refine run_loadAt_mid w g k T cs' d (fun j v hj=> ?_) hu hd (by rw [hn];exact hT.size)
 rw [row_cell (h.row hh)]
 subst hv
 rw [List.getElem?_take]at hj
 split at hj
 · rwa [List.getElem?_drop]at hj
 · cases hj
theorem run_stN {vs cs':List Value}{val:Value}(h:Own w0 w L)(hs:Swap L ⟨g,t,cs⟩ ⟨g,t,cs'⟩ L')(hval:val.cells=vs.toArray)(hT:(P.info? T).map (·.size)=some vs.length)(hk:k+vs.length≤cs.length)(h1:∀v∈vs,v.oneCell'=true)(he:cs.take k++vs++cs.drop (k+vs.length)=cs'):
   ∃w',(Instr.storeAt T (.pointer (some ⟨g,k,none⟩)) val).run P w= .ok () w'∧Own w0 w' L':=by
 refine⟨w.setRow g cs'.toArray, ?_,h.turn hs⟩
 have hs':=run_storeCells_at P g k t vs 0 cs.toArray w (h.row hs.has) (by simpa using hk) h1
 obtain⟨i,hi1,hi2⟩:=Option.map_eq_some_iff.1 hT
 subst he
 simp only [Nat.add_zero]at hs'
 simp [Instr.storeAt,Instr.sureAddr,storeVar,sizeOf,typeInfo,hi1,hi2,hval,hs']
end
theorem set_seg(cs:List Value)(k:Nat)(v:Value)(h:k<cs.length):cs.take k++[v]++cs.drop (k+[v].length)=cs.set k v:=by
 rw [List.set_eq_take_append_cons_drop,if_pos h];simp
theorem cells_agg(cs:List Value):(Value.agg cs.toArray).cells=cs.toArray:=rfl
/-! ### Steps of a walk -/
section
variable {P:Program} {ops:Array Oper} {Q:Exit→Act→World→Prop} {rest:List Oper} {o:Oper} {a:Act} {w0 w:World} {L L':List Blk} {T t:TypeId} {x y:Operand} {g k:Nat} {cs cs':List Value} {v:Value}
theorem wpl_ld1(hm:Own w0 w L)(hgd:Region.wanted o (yielded ops a.tmps)=true)(ho:o.op= .load T x)(hx:a.eval x= .pointer (some ⟨g,k,none⟩))[hT:One1 P T](hh:Has L ⟨g,t,cs⟩)(hv:cs[k]? =some v)
   (hr:wpList P ops Q rest (a.put o.dst v) w):wpList P ops Q (o::rest) a w:=
 wpList_want hgd fun K hK=>by
   unfold Oper.wp execOp
   simp only [ho,hx,Sem.run_bind,run_ld1 hm hh hv,Result.andThen_ok,Sem.run_pure]
   exact hK _ _ hr
theorem wpl_ldN {n:Nat}(hm:Own w0 w L)(hgd:Region.wanted o (yielded ops a.tmps)=true)(ho:o.op= .load T x)(hx:a.eval x= .pointer (some ⟨g,k,none⟩))[hT:Many P T n](hh:Has L ⟨g,t,cs⟩)(hv:(cs.drop k).take n=cs')(hn:cs'.length=n)
   (hr:wpList P ops Q rest (a.put o.dst (.agg cs'.toArray)) w):wpList P ops Q (o::rest) a w:=
 wpList_want hgd fun K hK=>by
   unfold Oper.wp execOp
   simp only [ho,hx,Sem.run_bind,run_ldN hm hh hv hn,Result.andThen_ok,Sem.run_pure]
   exact hK _ _ hr
theorem wpl_ldW {n:Nat}(hm:Own w0 w L)(hgd:Region.wanted o (yielded ops a.tmps)=true)(ho:o.op= .load T x)(hx:a.eval x= .pointer (some ⟨g,0,none⟩))[hT:Many P T n](hh:Has L ⟨g,t,cs⟩)(hn:cs.length=n)
   (hr:wpList P ops Q rest (a.put o.dst (.agg cs.toArray)) w):wpList P ops Q (o::rest) a w:=
 wpl_ldN hm hgd ho hx hh (by rw [dZe,List.take_of_length_le (by omega)]) hn hr
theorem wpl_stN {vs:List Value}{val:Value}(hm:Own w0 w L)(hgd:Region.wanted o (yielded ops a.tmps)=true)(ho:o.op= .store T x y)(hx:a.eval x= .pointer (some ⟨g,k,none⟩))(hy:a.eval y=val)(hval:val.cells=vs.toArray)
   (hT:(P.info? T).map (·.size)=some vs.length) (hs:Swap L ⟨g,t,cs⟩ ⟨g,t,cs'⟩ L') (hk:k+vs.length≤cs.length) (h1:∀v∈vs,v.oneCell'=true) (he:cs.take k++vs++cs.drop (k+vs.length)=cs')
   (hr:∀w',Own w0 w' L'→wpList P ops Q rest (a.put o.dst undef) w'):wpList P ops Q (o::rest) a w:=
 wpList_want hgd fun K hK=>by
   obtain⟨w',hrun,hm'⟩:=run_stN hm hs hval hT hk h1 he
   unfold Oper.wp execOp
   simp only [ho,hx,hy,Sem.run_bind,hrun,Result.andThen_ok]
   exact hK _ _ (hr w' hm')
theorem wpl_st1(hm:Own w0 w L)(hgd:Region.wanted o (yielded ops a.tmps)=true)(ho:o.op= .store T x y)(hx:a.eval x= .pointer (some ⟨g,k,none⟩))(hy:a.eval y=v)(hval:v.cells= #[v])(h1:v.oneCell'=true)
   [hT:One1 P T] (hs:Swap L ⟨g,t,cs⟩ ⟨g,t,cs'⟩ L') (hk:k<cs.length) (he:cs.set k v=cs')
   (hr:∀w',Own w0 w' L'→wpList P ops Q rest (a.put o.dst undef) w'):wpList P ops Q (o::rest) a w:=
 wpl_stN (vs:=[v]) hm hgd ho hx hy hval hT.size hs hk (by intro u hu;rw [List.mem_singleton.1 hu];exact h1) (by rw [set_seg _ _ _ hk,he]) hr
theorem wpl_st8 {l:List (BitVec 8)}{b:BitVec 8}(hm:Own w0 w L)(hgd:Region.wanted o (yielded ops a.tmps)=true)(ho:o.op= .store T x y)(hx:a.eval x= .pointer (some ⟨g,k,none⟩))(hy:a.eval y=v8 b)
   [hT:One1 P T] (hs:Swap L ⟨g,t,l.map v8⟩ ⟨g,t,(setN l k b).map v8⟩ L') (hk:k<l.length)
   (hr:∀w',Own w0 w' L'→wpList P ops Q rest (a.put o.dst undef) w'):wpList P ops Q (o::rest) a w:=
 wpl_st1 hm hgd ho hx hy rfl rfl hs (by simpa using hk) (map8_set l b) hr
theorem wpl_st8i {l:List (BitVec 8)}{n:Int}(hm:Own w0 w L)(hgd:Region.wanted o (yielded ops a.tmps)=true)(ho:o.op= .store T x y)(hx:a.eval x= .pointer (some ⟨g,k,none⟩))(hy:a.eval y= .int .u8 n)[hT:One1 P T](h0:0≤n)(h1:n≤255)
   (hs:Swap L ⟨g,t,l.map v8⟩ ⟨g,t,(setN l k (BitVec.ofInt 8 n)).map v8⟩ L') (hk:k<l.length)
   (hr:∀w',Own w0 w' L'→wpList P ops Q rest (a.put o.dst undef) w'):wpList P ops Q (o::rest) a w:=
 wpl_st8 hm hgd ho hx (hy.trans (by rw [←int8,IntWalk.u8_in _ ⟨h0,h1⟩])) hs hk hr
theorem wpl_stW {n:Nat}(hm:Own w0 w L)(hgd:Region.wanted o (yielded ops a.tmps)=true)(ho:o.op= .store T x y)(hx:a.eval x= .pointer (some ⟨g,0,none⟩))(hy:a.eval y= .agg cs'.toArray)[hT:Many P T n]
   (hs:Swap L ⟨g,t,cs⟩ ⟨g,t,cs'⟩ L') (hl:cs'.length=n) (hl2:cs.length=n) (h1:∀v∈cs',v.oneCell'=true)
   (hr:∀w',Own w0 w' L'→wpList P ops Q rest (a.put o.dst undef) w'):wpList P ops Q (o::rest) a w:=
 wpl_stN (vs:=cs') hm hgd ho hx hy rfl (by rw [hl];exact hT.size) hs (by omega) h1 (by simp [hl,←hl2]) hr
theorem wpl_stA {n:Nat}{vs:List Value}(hm:Own w0 w L)(hgd:Region.wanted o (yielded ops a.tmps)=true)(ho:o.op= .store T x y)(hx:a.eval x= .pointer (some ⟨g,k,none⟩))(hy:a.eval y= .agg vs.toArray)[hT:Many P T n]
   (hs:Swap L ⟨g,t,cs⟩ ⟨g,t,cs'⟩ L') (hl:vs.length=n) (hk:k+n≤cs.length) (h1:∀v∈vs,v.oneCell'=true) (he:cs.take k++vs++cs.drop (k+n)=cs')
   (hr:∀w',Own w0 w' L'→wpList P ops Q rest (a.put o.dst undef) w'):wpList P ops Q (o::rest) a w:=
 wpl_stN (vs:=vs) hm hgd ho hx hy rfl (by rw [hl];exact hT.size) hs (by omega) h1 (by rw [hl];exact he) hr
class ZeroOf (P:Program) (T:TypeId) (cs:outParam (List Value)):Prop where
 out:(P.info? T).bind (fun i=>i.zero.map fun z=>z.cells)=some cs.toArray
theorem new_run(e:TypeId)(v:Value):(newVar e v).run P w= .ok ⟨w.heap.size,0,none⟩ (w.alloc (.cells v.cells e)):=by
 simp only [newVar,newRow,newObj,Sem.run_bind];rfl
theorem run_zero [z:ZeroOf P T cs]:∃u:Value,u.cells=cs.toArray∧(zeroValue T).run P w= .ok u w:=by
 have:=z.out
 cases hi:P.info? T with
 |none=>simp [hi]at this
 | some i=>
   cases hz:i.zero with
   |none=>simp [hi,hz]at this
   | some u=>
     simp [hi,hz]at this
     exact⟨u,this,by simp [zeroValue,typeInfo,hi,hz]⟩
theorem wpl_new [z:ZeroOf P T cs](hm:Own w0 w L)(hgd:Region.wanted o (yielded ops a.tmps)=true)(ho:o.op= .alloc T)
   (hr:∀g w',Own w0 w' (⟨g,T,cs⟩::L)→wpList P ops Q rest (a.put o.dst (.pointer (some ⟨g,0,none⟩))) w'):wpList P ops Q (o::rest) a w:=
 wpList_want hgd fun K hK=>by
   obtain⟨u,hu,hz⟩:=run_zero (P:=P) (T:=T) (cs:=cs) (w:=w)
   unfold Oper.wp execOp
   simp only [ho,Instr.alloc,Sem.run_bind,hz,Result.andThen_ok,new_run,Sem.run_pure,hu]
   exact hK _ _ (hr _ _ (hm.alloc T cs))
theorem wpl_boxN(hm:Own w0 w L)(hgd:Region.wanted o (yielded ops a.tmps)=true)(ho:o.op= .box T x)(hx:a.eval x= .agg cs.toArray)
   (hr:∀g w',Own w0 w' (⟨g,T,cs⟩::L)→wpList P ops Q rest (a.put o.dst (.pointer (some ⟨g,0,none⟩))) w'):wpList P ops Q (o::rest) a w:=
 wpList_want hgd fun K hK=>by
   unfold Oper.wp execOp
   simp only [ho,hx,Sem.run_bind,new_run,Result.andThen_ok,Sem.run_pure,cells_agg]
   exact hK _ _ (hr _ _ (hm.alloc T cs))
theorem wpl_box1(hm:Own w0 w L)(hgd:Region.wanted o (yielded ops a.tmps)=true)(ho:o.op= .box T x)(hx:a.eval x=v)(hv:v.cells= #[v])
   (hr:∀g w',Own w0 w' (⟨g,T,[v]⟩::L)→wpList P ops Q rest (a.put o.dst (.pointer (some ⟨g,0,none⟩))) w'):wpList P ops Q (o::rest) a w:=
 wpList_want hgd fun K hK=>by
   unfold Oper.wp execOp
   have h2:=hm.alloc T [v]
   rw [show [v].toArray=v.cells from hv.symm]at h2
   simp only [ho,hx,Sem.run_bind,new_run,Result.andThen_ok,Sem.run_pure]
   exact hK _ _ (hr _ _ h2)
theorem wpl_cp8 {dT sT elem:TypeId}{dLen dCap sCap n:Nat}{p:Option Addr}{cur cur' l:List Byte}(hm:Own w0 w L)(hgd:Region.wanted o (yielded ops a.tmps)=true)(ho:o.op= .call {callee:= .builtin .copy,args:= #[x,y],argTypes:= #[dT,sT]})(hx:a.eval x= .slice (some ⟨g,k,Option.none⟩) dLen dCap)(hy:a.eval y= .slice p n sCap)
   (hu:P.underlying dT=some (.slice elem)) (he:(P.info? elem).map (·.size)=some 1) (hs:Swap L ⟨g,t,cur.map v8⟩ ⟨g,t,cur'.map v8⟩ L') (hr:RdB w p l) (hn:n=l.length) (hc:over cur k (l.take dLen)=cur') (hfit:k+dLen≤cur.length)
   (h:∀w',Own w0 w' L'→wpList P ops Q rest (a.put o.dst (goInt (min l.length dLen:Nat))) w'):wpList P ops Q (o::rest) a w:=
 wpl_copy hc hgd ho hx hy hn hu he (hm.row hs.has) hfit hr (h _ (hm.turn hs))
theorem ret_own {fn:Func}{R:Ending→World→Prop}{p:Tmp}{n:Nat}(hm:Own w0 w L)(h:fn.results= #[.cell p T])(hp:a.tmps.getD p undef= .pointer (some ⟨g,0,none⟩))(hT:Many P T n)(hh:Has L ⟨g,t,cs⟩)(hn:cs.length=n)
   (hf:a.defers=[]) (hR:R (.returned (.agg cs.toArray)) w):bodyPost P fn R .ret a w:=by
 obtain⟨d,hu,hd⟩:=Option.map_eq_some_iff.1 hT.row
 exact ret_row h hp (hm.row hh) hu (by cases d<;>simp_all) (by rw [hn];exact hT.size) hf hR
/-! ### Steps of a region -/
theorem gives_ld1(hm:Own w0 w L)(ho:o.op= .load T x)(hx:a.eval x= .pointer (some ⟨g,k,none⟩))[hT:One1 P T](hh:Has L ⟨g,t,cs⟩)(hv:cs[k]? =some v):gives P w (Is v) ((execOp a.eval o).run P w):=by
 unfold execOp
 simp only [ho,hx,Sem.run_bind,run_ld1 hm hh hv,Result.andThen_ok,Sem.run_pure]
 exact gives_same
theorem gives_ldN {n:Nat}(hm:Own w0 w L)(ho:o.op= .load T x)(hx:a.eval x= .pointer (some ⟨g,k,none⟩))[hT:Many P T n](hh:Has L ⟨g,t,cs⟩)(hv:(cs.drop k).take n=cs')(hn:cs'.length=n):gives P w (Is (.agg cs'.toArray)) ((execOp a.eval o).run P w):=by
 unfold execOp
 simp only [ho,hx,Sem.run_bind,run_ldN hm hh hv hn,Result.andThen_ok,Sem.run_pure]
 exact gives_same
theorem gives_ldW {n:Nat}(hm:Own w0 w L)(ho:o.op= .load T x)(hx:a.eval x= .pointer (some ⟨g,0,none⟩))[hT:Many P T n](hh:Has L ⟨g,t,cs⟩)(hn:cs.length=n):gives P w (Is (.agg cs.toArray)) ((execOp a.eval o).run P w):=
 gives_ldN hm ho hx hh (by rw [dZe,List.take_of_length_le (by omega)]) hn
end
/-! ### The same, each for the operation that it is for (quick to try) -/
section
variable {P:Program} {ops:Array Oper} {Q:Exit→Act→World→Prop} {rest:List Oper} {dst:Option Tmp} {ty:TypeId} {pos:String} {aft:Array Edge} {gd:Option (Nat×Bool)} {a:Act} {w0 w:World} {L L':List Blk} {T t:TypeId} {x y:Operand} {g k n:Nat} {cs cs' vs:List Value} {v:Value}
theorem wq_ldv {b:Nat}{f:BitVec b→Value}{l:List (BitVec b)}(hm:Own w0 w L)(hgd:Region.wanted (Oper.mk dst (.load T x) ty pos aft gd) (yielded ops a.tmps)=true)(hT:One1 P T)(hx:a.eval x= .pointer (some ⟨g,k,none⟩))(hh:Has L ⟨g,t,l.map f⟩)(hk:k<l.length)(hr:wpList P ops Q rest (a.put dst (f (nth l k))) w):wpList P ops Q ((Oper.mk dst (.load T x) ty pos aft gd)::rest) a w:=wpl_ld1 hm hgd rfl hx hh (mapv_at f l hk) hr
theorem gq_ldv {b:Nat}{f:BitVec b→Value}{l:List (BitVec b)}(hm:Own w0 w L)(hT:One1 P T)(hx:a.eval x= .pointer (some ⟨g,k,none⟩))(hh:Has L ⟨g,t,l.map f⟩)(hk:k<l.length):gives P w (Is (f (nth l k))) ((execOp a.eval (Oper.mk dst (.load T x) ty pos aft gd)).run P w):=gives_ld1 hm rfl hx hh (mapv_at f l hk)
theorem wq_stv {b:Nat}{f:BitVec b→Value}{l:List (BitVec b)}{z:BitVec b}(hm:Own w0 w L)(hgd:Region.wanted (Oper.mk dst (.store T x y) ty pos aft gd) (yielded ops a.tmps)=true)(hT:One1 P T)(hx:a.eval x= .pointer (some ⟨g,k,none⟩))(hs:Swap L ⟨g,t,l.map f⟩ ⟨g,t,(setN l k z).map f⟩ L')(hf:CellV f)(hy:a.eval y=f z)(hk:k<l.length)(hr:∀w',Own w0 w' L'→wpList P ops Q rest (a.put dst undef) w'):wpList P ops Q ((Oper.mk dst (.store T x y) ty pos aft gd)::rest) a w:=wpl_st1 hm hgd rfl hx hy (hf.cells z) (hf.one z) hs (by simpa using hk) (mapv_set f l z) hr
theorem wq_st8i {l:List (BitVec 8)}{n:Int}(hm:Own w0 w L)(hgd:Region.wanted (Oper.mk dst (.store T x y) ty pos aft gd) (yielded ops a.tmps)=true)(hT:One1 P T)(hx:a.eval x= .pointer (some ⟨g,k,none⟩))(hy:a.eval y= .int .u8 n)(hs:Swap L ⟨g,t,l.map v8⟩ ⟨g,t,(setN l k (BitVec.ofInt 8 n)).map v8⟩ L')(h0:0≤n∧n≤255)(hk:k<l.length)(hr:∀w',Own w0 w' L'→wpList P ops Q rest (a.put dst undef) w'):wpList P ops Q ((Oper.mk dst (.store T x y) ty pos aft gd)::rest) a w:=wpl_st8i hm hgd rfl hx hy h0.1 h0.2 hs hk hr
theorem wq_ld1(hm:Own w0 w L)(hgd:Region.wanted (Oper.mk dst (.load T x) ty pos aft gd) (yielded ops a.tmps)=true)(hT:One1 P T)(hx:a.eval x= .pointer (some ⟨g,k,none⟩))(hh:Has L ⟨g,t,cs⟩)(hv:cs[k]? =some v)(hr:wpList P ops Q rest (a.put dst v) w):wpList P ops Q ((Oper.mk dst (.load T x) ty pos aft gd)::rest) a w:=wpl_ld1 hm hgd rfl hx hh hv hr
theorem wq_ldW(hm:Own w0 w L)(hgd:Region.wanted (Oper.mk dst (.load T x) ty pos aft gd) (yielded ops a.tmps)=true)(hT:Many P T n)(hx:a.eval x= .pointer (some ⟨g,0,none⟩))(hh:Has L ⟨g,t,cs⟩)(hn:cs.length=n)(hr:wpList P ops Q rest (a.put dst (.agg cs.toArray)) w):wpList P ops Q ((Oper.mk dst (.load T x) ty pos aft gd)::rest) a w:=wpl_ldW hm hgd rfl hx hh hn hr
theorem wq_ldN(hm:Own w0 w L)(hgd:Region.wanted (Oper.mk dst (.load T x) ty pos aft gd) (yielded ops a.tmps)=true)(hT:Many P T n)(hx:a.eval x= .pointer (some ⟨g,k,none⟩))(hh:Has L ⟨g,t,cs⟩)(hv:(cs.drop k).take n=cs')(hn:cs'.length=n)(hr:wpList P ops Q rest (a.put dst (.agg cs'.toArray)) w):wpList P ops Q ((Oper.mk dst (.load T x) ty pos aft gd)::rest) a w:=wpl_ldN hm hgd rfl hx hh hv hn hr
theorem wq_st1(hm:Own w0 w L)(hgd:Region.wanted (Oper.mk dst (.store T x y) ty pos aft gd) (yielded ops a.tmps)=true)(hT:One1 P T)(hx:a.eval x= .pointer (some ⟨g,k,none⟩))(hy:a.eval y=v)(hval:v.cells= #[v])(h1:v.oneCell'=true)(hs:Swap L ⟨g,t,cs⟩ ⟨g,t,cs.set k v⟩ L')(hk:k<cs.length)(hr:∀w',Own w0 w' L'→wpList P ops Q rest (a.put dst undef) w'):wpList P ops Q ((Oper.mk dst (.store T x y) ty pos aft gd)::rest) a w:=wpl_st1 hm hgd rfl hx hy hval h1 hs hk rfl hr
theorem wq_stW(hm:Own w0 w L)(hgd:Region.wanted (Oper.mk dst (.store T x y) ty pos aft gd) (yielded ops a.tmps)=true)(hT:Many P T n)(hx:a.eval x= .pointer (some ⟨g,0,none⟩))(hy:a.eval y= .agg cs'.toArray)(hs:Swap L ⟨g,t,cs⟩ ⟨g,t,cs'⟩ L')(hl:cs'.length=n)(hl2:cs.length=n)(h1:∀v∈cs',v.oneCell'=true)(hr:∀w',Own w0 w' L'→wpList P ops Q rest (a.put dst undef) w'):wpList P ops Q ((Oper.mk dst (.store T x y) ty pos aft gd)::rest) a w:=wpl_stW hm hgd rfl hx hy hs hl hl2 h1 hr
theorem wq_new(hm:Own w0 w L)(hgd:Region.wanted (Oper.mk dst (.alloc T) ty pos aft gd) (yielded ops a.tmps)=true)(hT:ZeroOf P T cs)(hr:∀g w',Own w0 w' (⟨g,T,cs⟩::L)→wpList P ops Q rest (a.put dst (.pointer (some ⟨g,0,none⟩))) w'):wpList P ops Q ((Oper.mk dst (.alloc T) ty pos aft gd)::rest) a w:=wpl_new hm hgd rfl hr
theorem wq_boxN(hm:Own w0 w L)(hgd:Region.wanted (Oper.mk dst (.box T x) ty pos aft gd) (yielded ops a.tmps)=true)(hx:a.eval x= .agg cs.toArray)(hr:∀g w',Own w0 w' (⟨g,T,cs⟩::L)→wpList P ops Q rest (a.put dst (.pointer (some ⟨g,0,none⟩))) w'):wpList P ops Q ((Oper.mk dst (.box T x) ty pos aft gd)::rest) a w:=wpl_boxN hm hgd rfl hx hr
theorem wq_box1(hm:Own w0 w L)(hgd:Region.wanted (Oper.mk dst (.box T x) ty pos aft gd) (yielded ops a.tmps)=true)(hx:a.eval x=v)(hv:v.cells= #[v])(hr:∀g w',Own w0 w' (⟨g,T,[v]⟩::L)→wpList P ops Q rest (a.put dst (.pointer (some ⟨g,0,none⟩))) w'):wpList P ops Q ((Oper.mk dst (.box T x) ty pos aft gd)::rest) a w:=wpl_box1 hm hgd rfl hx hv hr
theorem gq_ld1(hm:Own w0 w L)(hT:One1 P T)(hx:a.eval x= .pointer (some ⟨g,k,none⟩))(hh:Has L ⟨g,t,cs⟩)(hv:cs[k]? =some v):gives P w (Is v) ((execOp a.eval (Oper.mk dst (.load T x) ty pos aft gd)).run P w):=gives_ld1 hm rfl hx hh hv
theorem gq_ldW(hm:Own w0 w L)(hT:Many P T n)(hx:a.eval x= .pointer (some ⟨g,0,none⟩))(hh:Has L ⟨g,t,cs⟩)(hn:cs.length=n):gives P w (Is (.agg cs.toArray)) ((execOp a.eval (Oper.mk dst (.load T x) ty pos aft gd)).run P w):=gives_ldW hm rfl hx hh hn
theorem gq_ldN(hm:Own w0 w L)(hT:Many P T n)(hx:a.eval x= .pointer (some ⟨g,k,none⟩))(hh:Has L ⟨g,t,cs⟩)(hv:(cs.drop k).take n=cs')(hn:cs'.length=n):gives P w (Is (.agg cs'.toArray)) ((execOp a.eval (Oper.mk dst (.load T x) ty pos aft gd)).run P w):=gives_ldN hm rfl hx hh hv hn
end
theorem wq_build0 {P:Program}{ops:Array Oper}{Q:Exit→Act→World→Prop}{rest:List Oper}{dst:Option Tmp}{ty:TypeId}{pos:String}{aft:Array Edge}{gd:Option (Nat×Bool)}{a:Act}{w:World}{T:TypeId}{v:Value}
   (hb:∀w,(Instr.build T #[]).run P w= .ok v w) (hgd:Region.wanted (Oper.mk dst (.build T #[]) ty pos aft gd) (yielded ops a.tmps)=true) (hr:wpList P ops Q rest (a.put dst v) w):wpList P ops Q ((Oper.mk dst (.build T #[]) ty pos aft gd)::rest) a w:=
 wpList_want hgd fun K hK=>by
   unfold Oper.wp execOp
   simp [hb,Sem.run_bind,Result.andThen_ok,Sem.run_pure]
   exact hK _ _ hr
section
variable {P:Program} {ops:Array Oper} {Q:Exit→Act→World→Prop} {rest:List Oper} {dst:Option Tmp} {ty:TypeId} {pos:String} {aft:Array Edge} {gd:Option (Nat×Bool)} {a:Act} {w0 w:World} {L L':List Blk} {T t:TypeId} {x y:Operand} {g k n:Nat} {cs:List Value} {v:Value}
theorem wq_buildN {parts:Array (Nat×Operand)}(hb:∀w,(Instr.build T (parts.map fun p=>(p.1,a.eval p.2))).run P w= .ok v w)(hgd:Region.wanted (Oper.mk dst (.build T parts) ty pos aft gd) (yielded ops a.tmps)=true)(hr:wpList P ops Q rest (a.put dst v) w):wpList P ops Q ((Oper.mk dst (.build T parts) ty pos aft gd)::rest) a w:=
 wpList_want hgd fun K hK=>by
   have h:=hb w
   unfold Oper.wp execOp
   simp only [Sem.run_bind,h,Result.andThen_ok,Sem.run_pure]
   exact hK _ _ hr
theorem wq_build1 {i:Nat}{u:Value}(hb:∀w,(Instr.build T #[(i,u)]).run P w= .ok v w)(hgd:Region.wanted (Oper.mk dst (.build T #[(i,x)]) ty pos aft gd) (yielded ops a.tmps)=true)(hx:a.eval x=u)(hr:wpList P ops Q rest (a.put dst v) w):wpList P ops Q ((Oper.mk dst (.build T #[(i,x)]) ty pos aft gd)::rest) a w:=
 wq_buildN (fun w=>by simpa [hx]using hb w) hgd hr
theorem wq_s1v {b:Nat}{f:BitVec b→Value}{z:BitVec b}(hm:Own w0 w L)(hgd:Region.wanted (Oper.mk dst (.store T x y) ty pos aft gd) (yielded ops a.tmps)=true)(hT:One1 P T)(hx:a.eval x= .pointer (some ⟨g,k,none⟩))(hy:a.eval y=f z)(hf:CellV f)(hs:Swap L ⟨g,t,cs⟩ ⟨g,t,cs.set k (f z)⟩ L')(hk:k<cs.length)(hr:∀w',Own w0 w' L'→wpList P ops Q rest (a.put dst undef) w'):wpList P ops Q ((Oper.mk dst (.store T x y) ty pos aft gd)::rest) a w:=wpl_st1 hm hgd rfl hx hy (hf.cells z) (hf.one z) hs hk rfl hr
theorem run_rdW {l:List Byte}{A:Addr}(h:RdB w (some A) l)[hT:Many P T n](hn:l.length=n):(Instr.loadAt T (.pointer (some A))).run P w= .ok (A8 l) w:=by
 obtain⟨d,hu,hd⟩:=Option.map_eq_some_iff.1 hT.row
 have hl:(loadCells A (l.map v8).length).run P w= .ok (l.map v8).toArray w:=
   run_loadCells_list (P:=P) w A (l.map v8) (fun j v hv=>by
     obtain⟨hj,e⟩:=List.getElem?_eq_some_iff.1 hv
     rw [List.length_map]at hj
     have:=h.2 j hj
     simp only [Option.getD_some]at this
     rw [this,←e];simp [hj])
 have hagg:(isAgg T).run P w= .ok true w:=by
   unfold isAgg
   rw [Sem.run_bind,run_underlying hu w]
   cases d<;>simp_all
 obtain⟨i,hi1,hi2⟩:=Option.map_eq_some_iff.1 hT.size
 rw [List.length_map]at hl
 simp [Instr.loadAt,Instr.sureAddr,loadVar,Sem.run_bind,hagg,sizeOf,typeInfo,hi1,hi2,←hn,hl]
theorem gq_rdW {l:List Byte}{A:Addr}(h:RdB w (some A) l)(hT:Many P T n)(hx:a.eval x= .pointer (some A))(hn:l.length=n):gives P w (Is (A8 l)) ((execOp a.eval (Oper.mk dst (.load T x) ty pos aft gd)).run P w):=by
 unfold execOp
 simp only [hx,Sem.run_bind,run_rdW h hn,Result.andThen_ok,Sem.run_pure]
 exact gives_same
theorem wq_rdW {l:List Byte}{A:Addr}(h:RdB w (some A) l)(hgd:Region.wanted (Oper.mk dst (.load T x) ty pos aft gd) (yielded ops a.tmps)=true)(hT:Many P T n)(hx:a.eval x= .pointer (some A))(hn:l.length=n)(hr:wpList P ops Q rest (a.put dst (A8 l)) w):wpList P ops Q ((Oper.mk dst (.load T x) ty pos aft gd)::rest) a w:=
 wpList_want hgd fun K hK=>by
   unfold Oper.wp execOp
   simp only [hx,Sem.run_bind,run_rdW h hn,Result.andThen_ok,Sem.run_pure]
   exact hK _ _ hr
theorem gq_row1(h:Row w g t cs)(hT:One1 P T)(hx:a.eval x= .pointer (some ⟨g,k,none⟩))(hv:cs[k]? =some v):gives P w (Is v) ((execOp a.eval (Oper.mk dst (.load T x) ty pos aft gd)).run P w):=by
 have hm:Own w w []:=Own.start w
 have hc:w.cell? ⟨g,k,none⟩=some v:=by rw [row_cell h k];exact hv
 obtain⟨d,hu,hd⟩:=Option.map_eq_some_iff.1 hT.row
 have hagg:(isAgg T).run P w= .ok false w:=by
   unfold isAgg
   rw [Sem.run_bind,run_underlying hu w]
   cases d<;>simp_all
 unfold execOp
 simp [hx,Instr.loadAt,Instr.sureAddr,loadVar,Sem.run_bind,hagg,hc]
 exact gives_same
end
@[go_sem] theorem indexAt_v8 (t : TypeId) (x : Value) (i : BitVec 8) : Instr.indexAt t x (v8 i) = Instr.indexAt t x (.int .u8 i.toNat) := rfl
@[go_sem] theorem index_v8 (t : TypeId) (x : Value) (i : BitVec 8) : Instr.index t x (v8 i) = Instr.index t x (.int .u8 i.toNat) := rfl
theorem wp_scope_goto {P:Program}{c X:Code}{Q:Exit→Act→World→Prop}{a:Act}{w:World}(l:Nat)(J:Act→World→Prop)(μ :Act→World→Nat)(hf:findLabel c l=some (Code.skip.seq X))
   (pass:∀a w,J a w→X.wp P (Exit.jump l (fun a' w'=>J a' w'∧ μ a' w'< μ a w) Q) a w)
   (first:(∀a w,J a w→X.wp P (Exit.jump l J Q) a w)→c.wp P (Exit.jump l J Q) a w):(Code.scope c).wp P Q a w:=
 wp_scope_jumps l J μ hf (first fun a w h=>Code.wp_mono (fun e a' w' he=>by
   cases e<;>first|exact he|exact⟨he.1,he.2.1⟩) (pass a w h)) (fun a w h=>wp_seq (wp_skip (pass a w h)))
section
variable {P:Program} {ops:Array Oper} {Q:Exit→Act→World→Prop} {rest:List Oper} {dst:Option Tmp} {ty:TypeId} {pos:String} {aft:Array Edge} {gd:Option (Nat×Bool)} {a:Act} {w0 w:World} {L L':List Blk} {T t:TypeId} {x y:Operand} {g k n:Nat} {cs cs' vs:List Value} {v:Value}
theorem zA {b:Nat}{f:BitVec b→Value}{l:List (BitVec b)}(hm:Own w0 w L)(hr:wpList P ops Q rest (a.put dst (f (nth l k))) w)(hgd:Region.wanted (Oper.mk dst (.load T x) ty pos aft gd) (yielded ops a.tmps)=true:=by exact rfl)(hT:One1 P T:=by infer_instance)(hx:a.eval x= .pointer (some ⟨g,k,none⟩):=by exact rfl)(hh:Has L ⟨g,t,l.map f⟩:=by repeat (first|exact Has.hd|assumption|apply Has.tl|apply Has.app))(hk:k<l.length:=by first|omega|(simp;omega)|(refine ltB ?_;first|omega|(simp;done)|(simp;omega))):wpList P ops Q (Oper.mk dst (.load T x) ty pos aft gd::rest) a w:=wq_ldv hm hgd hT hx hh hk hr
theorem zB(hm:Own w0 w L)(hr:wpList P ops Q rest (a.put dst (.agg cs.toArray)) w)(hgd:Region.wanted (Oper.mk dst (.load T x) ty pos aft gd) (yielded ops a.tmps)=true:=by exact rfl)(hT:Many P T n:=by infer_instance)(hx:a.eval x= .pointer (some ⟨g,0,none⟩):=by exact rfl)(hh:Has L ⟨g,t,cs⟩:=by repeat (first|exact Has.hd|assumption|apply Has.tl|apply Has.app))(hn:cs.length=n:=by first|rfl|omega|(simp;done)|(simp;omega)):wpList P ops Q (Oper.mk dst (.load T x) ty pos aft gd::rest) a w:=wq_ldW hm hgd hT hx hh hn hr
theorem zC(hm:Own w0 w L)(hr:wpList P ops Q rest (a.put dst v) w)(hgd:Region.wanted (Oper.mk dst (.load T x) ty pos aft gd) (yielded ops a.tmps)=true:=by exact rfl)(hT:One1 P T:=by infer_instance)(hx:a.eval x= .pointer (some ⟨g,k,none⟩):=by exact rfl)(hh:Has L ⟨g,t,cs⟩:=by repeat (first|exact Has.hd|assumption|apply Has.tl|apply Has.app))(hv:cs[k]? =some v:=by exact rfl):wpList P ops Q (Oper.mk dst (.load T x) ty pos aft gd::rest) a w:=wq_ld1 hm hgd hT hx hh hv hr
theorem zD {b:Nat}{f:BitVec b→Value}{l:List (BitVec b)}{z:BitVec b}(hm:Own w0 w L)(hr:∀w',Own w0 w' L'→wpList P ops Q rest (a.put dst undef) w')(hgd:Region.wanted (Oper.mk dst (.store T x y) ty pos aft gd) (yielded ops a.tmps)=true:=by exact rfl)(hT:One1 P T:=by infer_instance)(hx:a.eval x= .pointer (some ⟨g,k,none⟩):=by exact rfl)(hs:Swap L ⟨g,t,l.map f⟩ ⟨g,t,(setN l k z).map f⟩ L':=by repeat (first|exact Swap.hd|assumption|apply Swap.tl|apply Swap.app))(hf:CellV f:=by infer_instance)(hy:a.eval y=f z:=by exact rfl)(hk:k<l.length:=by first|omega|(simp;omega)|(refine ltB ?_;first|omega|(simp;done)|(simp;omega))):wpList P ops Q (Oper.mk dst (.store T x y) ty pos aft gd::rest) a w:=wq_stv hm hgd hT hx hs hf hy hk hr
theorem zE(hm:Own w0 w L)(hr:∀w',Own w0 w' L'→wpList P ops Q rest (a.put dst undef) w')(hgd:Region.wanted (Oper.mk dst (.store T x y) ty pos aft gd) (yielded ops a.tmps)=true:=by exact rfl)(hT:Many P T n:=by infer_instance)(hx:a.eval x= .pointer (some ⟨g,0,none⟩):=by exact rfl)(hy:a.eval y= .agg cs'.toArray:=by exact rfl)(hs:Swap L ⟨g,t,cs⟩ ⟨g,t,cs'⟩ L':=by repeat (first|exact Swap.hd|assumption|apply Swap.tl|apply Swap.app))(hl:cs'.length=n:=by first|rfl|omega|(simp;done)|(simp;omega))(hl2:cs.length=n:=by first|rfl|omega|(simp;done)|(simp;omega))(h1:∀v∈cs',v.oneCell'=true:=by first|exact one_map _|(simp [one8,one32,one64];done)):wpList P ops Q (Oper.mk dst (.store T x y) ty pos aft gd::rest) a w:=wq_stW hm hgd hT hx hy hs hl hl2 h1 hr
theorem zF(hm:Own w0 w L)(hr:∀w',Own w0 w' L'→wpList P ops Q rest (a.put dst undef) w')(hgd:Region.wanted (Oper.mk dst (.store T x y) ty pos aft gd) (yielded ops a.tmps)=true:=by exact rfl)(hT:One1 P T:=by infer_instance)(hx:a.eval x= .pointer (some ⟨g,k,none⟩):=by exact rfl)(hy:a.eval y=v:=by exact rfl)(hval:v.cells= #[v]:=by exact rfl)(h1:v.oneCell'=true:=by exact rfl)(hs:Swap L ⟨g,t,cs⟩ ⟨g,t,cs.set k v⟩ L':=by repeat (first|exact Swap.hd|assumption|apply Swap.tl|apply Swap.app))(hk:k<cs.length:=by first|omega|(simp;omega)|(refine ltB ?_;first|omega|(simp;done)|(simp;omega))):wpList P ops Q (Oper.mk dst (.store T x y) ty pos aft gd::rest) a w:=wq_st1 hm hgd hT hx hy hval h1 hs hk hr
theorem zG(hm:Own w0 w L)(hr:∀g w',Own w0 w' (⟨g,T,cs⟩::L)→wpList P ops Q rest (a.put dst (.pointer (some ⟨g,0,none⟩))) w')(hgd:Region.wanted (Oper.mk dst (.alloc T) ty pos aft gd) (yielded ops a.tmps)=true:=by exact rfl)(hT:ZeroOf P T cs:=by infer_instance):wpList P ops Q (Oper.mk dst (.alloc T) ty pos aft gd::rest) a w:=wq_new hm hgd hT hr
theorem zH(hm:Own w0 w L)(hr:∀g w',Own w0 w' (⟨g,T,cs⟩::L)→wpList P ops Q rest (a.put dst (.pointer (some ⟨g,0,none⟩))) w')(hgd:Region.wanted (Oper.mk dst (.box T x) ty pos aft gd) (yielded ops a.tmps)=true:=by exact rfl)(hx:a.eval x= .agg cs.toArray:=by exact rfl):wpList P ops Q (Oper.mk dst (.box T x) ty pos aft gd::rest) a w:=wq_boxN hm hgd hx hr
theorem zI(hm:Own w0 w L)(hr:∀g w',Own w0 w' (⟨g,T,[v]⟩::L)→wpList P ops Q rest (a.put dst (.pointer (some ⟨g,0,none⟩))) w')(hgd:Region.wanted (Oper.mk dst (.box T x) ty pos aft gd) (yielded ops a.tmps)=true:=by exact rfl)(hx:a.eval x=v:=by exact rfl)(hv:v.cells= #[v]:=by exact rfl):wpList P ops Q (Oper.mk dst (.box T x) ty pos aft gd::rest) a w:=wq_box1 hm hgd hx hv hr
theorem zJ {b:Nat}{f:BitVec b→Value}{l:List (BitVec b)}(hm:Own w0 w L)(hT:One1 P T:=by infer_instance)(hx:a.eval x= .pointer (some ⟨g,k,none⟩):=by exact rfl)(hh:Has L ⟨g,t,l.map f⟩:=by repeat (first|exact Has.hd|assumption|apply Has.tl|apply Has.app))(hk:k<l.length:=by first|omega|(simp;omega)|(refine ltB ?_;first|omega|(simp;done)|(simp;omega))):gives P w (Is (f (nth l k))) ((execOp a.eval (Oper.mk dst (.load T x) ty pos aft gd)).run P w):=gq_ldv hm hT hx hh hk
theorem zK(hm:Own w0 w L)(hT:Many P T n:=by infer_instance)(hx:a.eval x= .pointer (some ⟨g,0,none⟩):=by exact rfl)(hh:Has L ⟨g,t,cs⟩:=by repeat (first|exact Has.hd|assumption|apply Has.tl|apply Has.app))(hn:cs.length=n:=by first|rfl|omega|(simp;done)|(simp;omega)):gives P w (Is (.agg cs.toArray)) ((execOp a.eval (Oper.mk dst (.load T x) ty pos aft gd)).run P w):=gq_ldW hm hT hx hh hn
theorem zL(hm:Own w0 w L)(hT:One1 P T:=by infer_instance)(hx:a.eval x= .pointer (some ⟨g,k,none⟩):=by exact rfl)(hh:Has L ⟨g,t,cs⟩:=by repeat (first|exact Has.hd|assumption|apply Has.tl|apply Has.app))(hv:cs[k]? =some v:=by exact rfl):gives P w (Is v) ((execOp a.eval (Oper.mk dst (.load T x) ty pos aft gd)).run P w):=gq_ld1 hm hT hx hh hv
end
abbrev qGl {P:Program}{w w2:World}{V:Slot}{e:Operand→Value}{d:Option Tmp}{t:TypeId}{x:Operand}{y:TypeId}{s:String}{f:Array Edge}{g:Option (Nat×Bool)}:Prop:=gives P w V ((execOp e (Oper.mk d (Op.load t x) y s f g)).run P w2)
theorem rgE {P:Program}{Q:Exit→Act→World→Prop}{id:Nat}{l:List Oper}{a0:Act}{w0:World}(n sz:Nat)(h:walkS P l.toArray (fun w'=>Ext w0 w') sz (l.take n) a0 [] (fun Vs=>∀w',Ext w0 w'→fin (wpList P l.toArray Q (l.drop n)) (((l.take n).map (·.dst)).zip Vs) a0 w'))(hm:P.follows .mixedOrders=true:=by kernel_rfl)(hB:(orderOk l.toArray (l.take n).length sz&&Region.noSelect l.toArray)=true:=by kernel_rfl)(hsz:a0.tmps.size=sz:=by rfl):(Code.region id l.toArray true).wp P Q a0 w0:=region_at n (fun w'=>Ext w0 w') sz hm hB hsz (fun _ _ h k=>h.trans k) (drew_ext _) h
instance:One1 Tryz.prog 3:=⟨by kernel_rfl,by kernel_rfl⟩
instance:ZeroOf Tryz.prog 3 [.int .i64 0]:=⟨by kernel_rfl⟩
instance:One1 Tryz.prog 4:=⟨by kernel_rfl,by kernel_rfl⟩
instance:ZeroOf Tryz.prog 4 [.bool false]:=⟨by kernel_rfl⟩
instance:One1 Tryz.prog 5:=⟨by kernel_rfl,by kernel_rfl⟩
instance:ZeroOf Tryz.prog 5 [v8 0#8]:=⟨by kernel_rfl⟩
instance:One1 Tryz.prog 9:=⟨by kernel_rfl,by kernel_rfl⟩
instance:ZeroOf Tryz.prog 9 [.string ⟨#[]⟩]:=⟨by kernel_rfl⟩
instance:One1 Tryz.prog 22:=⟨by kernel_rfl,by kernel_rfl⟩
instance:ZeroOf Tryz.prog 22 [.slice none 0 0]:=⟨by kernel_rfl⟩
instance:Many Tryz.prog 24 2:=⟨by kernel_rfl,by kernel_rfl⟩
instance:ZeroOf Tryz.prog 24 ([.int .i64 0, .slice none 0 0]):=⟨by kernel_rfl⟩
instance:One1 Tryz.prog 25:=⟨by kernel_rfl,by kernel_rfl⟩
instance:ZeroOf Tryz.prog 25 [v64 0#64]:=⟨by kernel_rfl⟩
instance:Many Tryz.prog 27 5:=⟨by kernel_rfl,by kernel_rfl⟩
instance:ZeroOf Tryz.prog 27 ([.int .i64 0, .slice none 0 0, .int .i64 0,v64 0#64, .string ⟨#[]⟩]):=⟨by kernel_rfl⟩
instance:One1 Tryz.prog 31:=⟨by kernel_rfl,by kernel_rfl⟩
instance:ZeroOf Tryz.prog 31 [.pointer none]:=⟨by kernel_rfl⟩
instance:One1 Tryz.prog 34:=⟨by kernel_rfl,by kernel_rfl⟩
instance:ZeroOf Tryz.prog 34 [.pointer none]:=⟨by kernel_rfl⟩
instance:One1 Tryz.prog 35:=⟨by kernel_rfl,by kernel_rfl⟩
instance:ZeroOf Tryz.prog 35 [.int .i64 0]:=⟨by kernel_rfl⟩
instance:Many Tryz.prog 40 8:=⟨by kernel_rfl,by kernel_rfl⟩
instance:ZeroOf Tryz.prog 40 ((zer (n:=8) 8).map v8):=⟨by kernel_rfl⟩
instance:One1 Tryz.prog 44:=⟨by kernel_rfl,by kernel_rfl⟩
instance:One1 Tryz.prog 48:=⟨by kernel_rfl,by kernel_rfl⟩
instance:ZeroOf Tryz.prog 48 [.slice none 0 0]:=⟨by kernel_rfl⟩
instance:Many Tryz.prog 50 3:=⟨by kernel_rfl,by kernel_rfl⟩
instance:ZeroOf Tryz.prog 50 ([.int .i64 0, .slice none 0 0, .slice none 0 0]):=⟨by kernel_rfl⟩
instance:Many Tryz.prog 52 11:=⟨by kernel_rfl,by kernel_rfl⟩
instance:ZeroOf Tryz.prog 52 ([.int .i64 0, .slice none 0 0, .int .i64 0, .slice none 0 0, .int .i64 0, .slice none 0 0, .slice none 0 0, .int .i64 0, .slice none 0 0, .slice none 0 0, .slice none 0 0]):=⟨by kernel_rfl⟩
instance:One1 Tryz.prog 58:=⟨by kernel_rfl,by kernel_rfl⟩
instance:ZeroOf Tryz.prog 58 [.pointer none]:=⟨by kernel_rfl⟩
instance:Many Tryz.prog 62 2:=⟨by kernel_rfl,by kernel_rfl⟩
instance:ZeroOf Tryz.prog 62 ([.pointer none, .int .i64 0]):=⟨by kernel_rfl⟩
instance:One1 Tryz.prog 66:=⟨by kernel_rfl,by kernel_rfl⟩
instance:ZeroOf Tryz.prog 66 [v64 0#64]:=⟨by kernel_rfl⟩
instance:One1 Tryz.prog 70:=⟨by kernel_rfl,by kernel_rfl⟩
instance:ZeroOf Tryz.prog 70 [v32 0#32]:=⟨by kernel_rfl⟩
instance:One1 Tryz.prog 75:=⟨by kernel_rfl,by kernel_rfl⟩
instance:ZeroOf Tryz.prog 75 [.nilIface]:=⟨by kernel_rfl⟩
instance:Many Tryz.prog 79 2:=⟨by kernel_rfl,by kernel_rfl⟩
instance:ZeroOf Tryz.prog 79 ([.int .i64 0, .nilIface]):=⟨by kernel_rfl⟩
instance:One1 Tryz.prog 81:=⟨by kernel_rfl,by kernel_rfl⟩
instance:ZeroOf Tryz.prog 81 [.pointer none]:=⟨by kernel_rfl⟩
instance:Many Tryz.prog 85 256:=⟨by kernel_rfl,by kernel_rfl⟩
instance:ZeroOf Tryz.prog 85 ((zer (n:=32) 256).map v32):=⟨by kernel_rfl⟩
instance:Many Tryz.prog 86 1024:=⟨by kernel_rfl,by kernel_rfl⟩
instance:ZeroOf Tryz.prog 86 ((zer (n:=32) 1024).map v32):=⟨by kernel_rfl⟩
instance:Many Tryz.prog 88 2049:=⟨by kernel_rfl,by kernel_rfl⟩
instance:ZeroOf Tryz.prog 88 ([.pointer none]++((zer (n:=32) 2048).map v32)):=⟨by kernel_rfl⟩
instance:One1 Tryz.prog 89:=⟨by kernel_rfl,by kernel_rfl⟩
instance:One1 Tryz.prog 90:=⟨by kernel_rfl,by kernel_rfl⟩
instance:Many Tryz.prog 92 3:=⟨by kernel_rfl,by kernel_rfl⟩
instance:ZeroOf Tryz.prog 92 ([.nilFunc, .nilFunc, .nilFunc]):=⟨by kernel_rfl⟩
instance:One1 Tryz.prog 97:=⟨by kernel_rfl,by kernel_rfl⟩
instance:ZeroOf Tryz.prog 97 [.pointer none]:=⟨by kernel_rfl⟩
instance:One1 Tryz.prog 100:=⟨by kernel_rfl,by kernel_rfl⟩
instance:ZeroOf Tryz.prog 100 [.pointer none]:=⟨by kernel_rfl⟩
instance:One1 Tryz.prog 103:=⟨by kernel_rfl,by kernel_rfl⟩
instance:ZeroOf Tryz.prog 103 [.pointer none]:=⟨by kernel_rfl⟩
instance:Many Tryz.prog 107 1:=⟨by kernel_rfl,by kernel_rfl⟩
instance:ZeroOf Tryz.prog 107 ([.pointer none]):=⟨by kernel_rfl⟩
instance:Many Tryz.prog 109 4:=⟨by kernel_rfl,by kernel_rfl⟩
instance:ZeroOf Tryz.prog 109 ((zer (n:=8) 4).map v8):=⟨by kernel_rfl⟩
instance:Many Tryz.prog 110 255:=⟨by kernel_rfl,by kernel_rfl⟩
instance:ZeroOf Tryz.prog 110 ((zer (n:=8) 255).map v8):=⟨by kernel_rfl⟩
instance:Many Tryz.prog 111 256:=⟨by kernel_rfl,by kernel_rfl⟩
instance:ZeroOf Tryz.prog 111 ((zer (n:=8) 256).map v8):=⟨by kernel_rfl⟩
instance:Many Tryz.prog 113 512:=⟨by kernel_rfl,by kernel_rfl⟩
instance:ZeroOf Tryz.prog 113 ((zer (n:=8) 512).map v8):=⟨by kernel_rfl⟩
instance:Many Tryz.prog 121 32:=⟨by kernel_rfl,by kernel_rfl⟩
instance:ZeroOf Tryz.prog 121 ((zer (n:=8) 32).map v8):=⟨by kernel_rfl⟩
instance:One1 Tryz.prog 122:=⟨by kernel_rfl,by kernel_rfl⟩
instance:ZeroOf Tryz.prog 122 [.pointer none]:=⟨by kernel_rfl⟩
instance:One1 Tryz.prog 123:=⟨by kernel_rfl,by kernel_rfl⟩
instance:ZeroOf Tryz.prog 123 [.pointer none]:=⟨by kernel_rfl⟩
instance:Many Tryz.prog 125 34:=⟨by kernel_rfl,by kernel_rfl⟩
instance:ZeroOf Tryz.prog 125 (((zer (n:=8) 32).map v8)++[.pointer none, .pointer none]):=⟨by kernel_rfl⟩
instance:Many Tryz.prog 127 24:=⟨by kernel_rfl,by kernel_rfl⟩
instance:ZeroOf Tryz.prog 127 ((zer (n:=8) 24).map v8):=⟨by kernel_rfl⟩
instance:Many Tryz.prog 132 16:=⟨by kernel_rfl,by kernel_rfl⟩
instance:ZeroOf Tryz.prog 132 ((zer (n:=8) 16).map v8):=⟨by kernel_rfl⟩
instance:Many Tryz.prog 134 33:=⟨by kernel_rfl,by kernel_rfl⟩
instance:ZeroOf Tryz.prog 134 ([.pointer none]++((zer (n:=8) 32).map v8)):=⟨by kernel_rfl⟩
instance:One1 Tryz.prog 135:=⟨by kernel_rfl,by kernel_rfl⟩
instance:Many Tryz.prog 139 49:=⟨by kernel_rfl,by kernel_rfl⟩
instance:ZeroOf Tryz.prog 139 ([.pointer none]++((zer (n:=8) 48).map v8)):=⟨by kernel_rfl⟩
instance:Many Tryz.prog 149 64:=⟨by kernel_rfl,by kernel_rfl⟩
instance:ZeroOf Tryz.prog 149 ((zer (n:=8) 64).map v8):=⟨by kernel_rfl⟩
instance:One1 Tryz.prog 155:=⟨by kernel_rfl,by kernel_rfl⟩
instance:ZeroOf Tryz.prog 155 [.slice none 0 0]:=⟨by kernel_rfl⟩
instance:Many Tryz.prog 156 4:=⟨by kernel_rfl,by kernel_rfl⟩
instance:ZeroOf Tryz.prog 156 ((zer (n:=8) 4).map v8):=⟨by kernel_rfl⟩
instance:One1 Tryz.prog 161:=⟨by kernel_rfl,by kernel_rfl⟩
instance:ZeroOf Tryz.prog 161 [.slice none 0 0]:=⟨by kernel_rfl⟩
instance:Many Tryz.prog 163 2:=⟨by kernel_rfl,by kernel_rfl⟩
instance:ZeroOf Tryz.prog 163 ([.pointer none, .slice none 0 0]):=⟨by kernel_rfl⟩
instance:One1 Tryz.prog 165:=⟨by kernel_rfl,by kernel_rfl⟩
instance:ZeroOf Tryz.prog 165 [.slice none 0 0]:=⟨by kernel_rfl⟩
instance:Many Tryz.prog 169 33:=⟨by kernel_rfl,by kernel_rfl⟩
instance:ZeroOf Tryz.prog 169 (((zer (n:=8) 32).map v8)++[.slice none 0 0]):=⟨by kernel_rfl⟩
instance:One1 Tryz.prog 172:=⟨by kernel_rfl,by kernel_rfl⟩
instance:ZeroOf Tryz.prog 172 [.pointer none]:=⟨by kernel_rfl⟩
instance:One1 Tryz.prog 175:=⟨by kernel_rfl,by kernel_rfl⟩
instance:Many Tryz.prog 182 16:=⟨by kernel_rfl,by kernel_rfl⟩
instance:ZeroOf Tryz.prog 182 ((zer (n:=32) 16).map v32):=⟨by kernel_rfl⟩
instance:One1 Tryz.prog 187:=⟨by kernel_rfl,by kernel_rfl⟩
instance:Many Tryz.prog 189 8:=⟨by kernel_rfl,by kernel_rfl⟩
instance:ZeroOf Tryz.prog 189 ((zer (n:=64) 8).map v64):=⟨by kernel_rfl⟩
instance:Many Tryz.prog 191 2:=⟨by kernel_rfl,by kernel_rfl⟩
instance:ZeroOf Tryz.prog 191 ([v64 0#64,v64 0#64]):=⟨by kernel_rfl⟩
instance:Many Tryz.prog 193 12:=⟨by kernel_rfl,by kernel_rfl⟩
instance:ZeroOf Tryz.prog 193 (((zer (n:=64) 10).map v64)++[.slice none 0 0, .int .i64 0]):=⟨by kernel_rfl⟩
instance:Many Tryz.prog 197 2:=⟨by kernel_rfl,by kernel_rfl⟩
instance:ZeroOf Tryz.prog 197 ([.slice none 0 0, .slice none 0 0]):=⟨by kernel_rfl⟩
instance:One1 Tryz.prog 200:=⟨by kernel_rfl,by kernel_rfl⟩
instance:ZeroOf Tryz.prog 200 [.slice none 0 0]:=⟨by kernel_rfl⟩
instance:Many Tryz.prog 202 35:=⟨by kernel_rfl,by kernel_rfl⟩
instance:ZeroOf Tryz.prog 202 ([.slice none 0 0, .slice none 0 0, .slice none 0 0]++((zer (n:=8) 32).map v8)):=⟨by kernel_rfl⟩
instance:One1 Tryz.prog 208:=⟨by kernel_rfl,by kernel_rfl⟩
instance:Many Tryz.prog 215 128:=⟨by kernel_rfl,by kernel_rfl⟩
instance:ZeroOf Tryz.prog 215 ((zer (n:=8) 128).map v8):=⟨by kernel_rfl⟩
instance:Many Tryz.prog 223 32:=⟨by kernel_rfl,by kernel_rfl⟩
instance:ZeroOf Tryz.prog 223 ((zer (n:=8) 32).map v8):=⟨by kernel_rfl⟩
instance:One1 Tryz.prog 225:=⟨by kernel_rfl,by kernel_rfl⟩
instance:One1 Tryz.prog 228:=⟨by kernel_rfl,by kernel_rfl⟩
instance:ZeroOf Tryz.prog 228 [.pointer none]:=⟨by kernel_rfl⟩
instance:Many Tryz.prog 233 16:=⟨by kernel_rfl,by kernel_rfl⟩
instance:ZeroOf Tryz.prog 233 ((zer (n:=64) 16).map v64):=⟨by kernel_rfl⟩
instance:Many Tryz.prog 235 160:=⟨by kernel_rfl,by kernel_rfl⟩
instance:ZeroOf Tryz.prog 235 ((zer (n:=8) 160).map v8):=⟨by kernel_rfl⟩
instance:One1 Tryz.prog 237:=⟨by kernel_rfl,by kernel_rfl⟩
instance:ZeroOf Tryz.prog 237 [.pointer none]:=⟨by kernel_rfl⟩
instance:One1 Tryz.prog 270:=⟨by kernel_rfl,by kernel_rfl⟩
instance:ZeroOf Tryz.prog 270 [.pointer none]:=⟨by kernel_rfl⟩
instance:Many Tryz.prog 276 5:=⟨by kernel_rfl,by kernel_rfl⟩
instance:ZeroOf Tryz.prog 276 ((zer (n:=32) 5).map v32):=⟨by kernel_rfl⟩
instance:Many Tryz.prog 279 27:=⟨by kernel_rfl,by kernel_rfl⟩
instance:ZeroOf Tryz.prog 279 (((zer (n:=32) 10).map v32)++((zer (n:=8) 16).map v8)++[.int .i64 0]):=⟨by kernel_rfl⟩
instance:Many Tryz.prog 281 4:=⟨by kernel_rfl,by kernel_rfl⟩
instance:ZeroOf Tryz.prog 281 ((zer (n:=64) 4).map v64):=⟨by kernel_rfl⟩
instance:Many Tryz.prog 282 4:=⟨by kernel_rfl,by kernel_rfl⟩
instance:ZeroOf Tryz.prog 282 ((zer (n:=32) 4).map v32):=⟨by kernel_rfl⟩
instance:Many Tryz.prog 285 5:=⟨by kernel_rfl,by kernel_rfl⟩
instance:ZeroOf Tryz.prog 285 ((zer (n:=64) 5).map v64):=⟨by kernel_rfl⟩
instance:One1 Tryz.prog 295:=⟨by kernel_rfl,by kernel_rfl⟩
instance:ZeroOf Tryz.prog 295 [.pointer none]:=⟨by kernel_rfl⟩
instance:One1 Tryz.prog 298:=⟨by kernel_rfl,by kernel_rfl⟩
instance:ZeroOf Tryz.prog 298 [.pointer none]:=⟨by kernel_rfl⟩
instance:Many Tryz.prog 301 17:=⟨by kernel_rfl,by kernel_rfl⟩
instance:ZeroOf Tryz.prog 301 ([.pointer none]++((zer (n:=8) 16).map v8)):=⟨by kernel_rfl⟩
instance:Many Tryz.prog 302 32:=⟨by kernel_rfl,by kernel_rfl⟩
instance:ZeroOf Tryz.prog 302 ((zer (n:=64) 32).map v64):=⟨by kernel_rfl⟩
instance:Many Tryz.prog 304 32:=⟨by kernel_rfl,by kernel_rfl⟩
instance:ZeroOf Tryz.prog 304 ((zer (n:=64) 32).map v64):=⟨by kernel_rfl⟩
instance:Many Tryz.prog 307 2:=⟨by kernel_rfl,by kernel_rfl⟩
instance:ZeroOf Tryz.prog 307 ([v8 0#8,v8 0#8]):=⟨by kernel_rfl⟩
@[go_sem] theorem cv3_5 (n : Int) (w : World) : (convert 3 5 (.int .i64 n)).run Tryz.prog w = .ok (v8 (BitVec.ofInt 8 n)) w := conv_int8 n _ _ _ _ w rfl rfl
@[go_sem] theorem cv3_25 (n : Int) (w : World) : (convert 3 25 (.int .i64 n)).run Tryz.prog w = .ok (v64 (BitVec.ofInt 64 n)) w := conv_int64 n _ _ _ _ w rfl rfl
@[go_sem] theorem cv3_66 (n : Int) (w : World) : (convert 3 66 (.int .i64 n)).run Tryz.prog w = .ok (v64 (BitVec.ofInt 64 n)) w := conv_int64 n _ _ _ _ w rfl rfl
@[go_sem] theorem cv5_25 (x : BitVec 8) (w : World) : (convert 5 25 (v8 x)).run Tryz.prog w = .ok (v64 (x.setWidth 64)) w := conv8_64 x _ _ _ w rfl rfl
@[go_sem] theorem cv5_70 (x : BitVec 8) (w : World) : (convert 5 70 (v8 x)).run Tryz.prog w = .ok (v32 (x.setWidth 32)) w := conv8_32 x _ _ _ w rfl rfl
@[go_sem] theorem cv25_5 (x : BitVec 64) (w : World) : (convert 25 5 (v64 x)).run Tryz.prog w = .ok (v8 (x.setWidth 8)) w := conv64_8 x _ _ _ w rfl rfl
@[go_sem] theorem cv25_70 (x : BitVec 64) (w : World) : (convert 25 70 (v64 x)).run Tryz.prog w = .ok (v32 (x.setWidth 32)) w := conv64_32 x _ _ _ w rfl rfl
@[go_sem] theorem cv70_5 (x : BitVec 32) (w : World) : (convert 70 5 (v32 x)).run Tryz.prog w = .ok (v8 (x.setWidth 8)) w := conv32_8 x _ _ _ w rfl rfl
@[go_sem] theorem cv70_25 (x : BitVec 32) (w : World) : (convert 70 25 (v32 x)).run Tryz.prog w = .ok (v64 (x.setWidth 64)) w := conv32_64 x _ _ _ w rfl rfl
@[go_sem] theorem and1_nat (t : TypeId) (N : Nat) : binOp .and t (.int .i64 (N : Int)) (.int .i64 1) = pure (.int .i64 ((N % 2 : Nat) : Int)) := by
 rw [binOp_and]
 show pure (Value.int .i64 (IntKind.i64.wrap ((BitVec.ofInt 64 (N:Int)&&&BitVec.ofInt 64 1).toNat:Nat)))=_
 have e:(BitVec.ofInt 64 (N:Int)&&&BitVec.ofInt 64 1).toNat=N%2:=by
   rw [ofInt_nat',show BitVec.ofInt 64 1=1#64 from by decide,BitVec.toNat_and]
   simp only [BitVec.toNat_ofNat,show(1%2^64)=1 from by decide,Nat.and_one_is_mod]
   omega
 rw [e,IntWalk.i64_in _ (by omega)]
theorem bits_and1(N:Nat):bits .and .i64 (N:Int) 1=((N%2:Nat):Int):=by
 show IntKind.i64.wrap ((BitVec.ofInt 64 (N:Int)&&&BitVec.ofInt 64 1).toNat:Nat)=_
 have e:(BitVec.ofInt 64 (N:Int)&&&BitVec.ofInt 64 1).toNat=N%2:=by
   rw [ofInt_nat',show BitVec.ofInt 64 1=1#64 from by decide,BitVec.toNat_and]
   simp only [BitVec.toNat_ofNat,show(1%2^64)=1 from by decide,Nat.and_one_is_mod]
   omega
 rw [e,IntWalk.i64_in _ (by omega)]
@[go_sem] theorem shr1_nat (t : TypeId) (N : Nat) : binOp .shr t (.int .i64 (N : Int)) (.int .u64 1) = pure (.int .i64 ((N / 2 : Nat) : Int)) := by
 simp only [binOp_shr,Op.shift]
 have:((N:Int).fdiv (2^(min (1:Int).toNat IntKind.i64.bits)))=((N/2:Nat):Int):=by
   rw [show min (1:Int).toNat IntKind.i64.bits=1 from by decide,Int.fdiv_eq_ediv_of_nonneg _ (by decide)];omega
 rw [this];rfl
theorem build_z16(w:World):(Instr.build 132 #[]).run Tryz.prog w= .ok (A8 (zer 16)) w:=by kernel_rfl
open Go
def bothL(a b:List Byte):List Byte:=tab 16 fun i=>nth a i^^^nth b i
theorem bothL_length(a b:List Byte):(bothL a b).length=16:=tab_length
theorem bothL_nth(a b:List Byte)(i:Nat)(h:i<16):nth (bothL a b) i=nth a i^^^nth b i:=nth_tab h
end Go.Proofs.YtneacgpmjlocjaaGreatDoor
