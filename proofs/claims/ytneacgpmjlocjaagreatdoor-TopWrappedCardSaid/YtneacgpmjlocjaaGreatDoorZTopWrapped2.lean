/-
  Texts of the program, walked, and plain ones. Conditions: those written in each theorem.
-/
import Derived.Test.YtneacgpmjlocjaaGreatDoorZTopWrapped0
import Derived.Test.YtneacgpmjlocjaaGreatDoorZTopWrapped1
set_option linter.unusedSimpArgs false
set_option linter.unusedVariables false
set_option maxHeartbeats 16000000
namespace Go.Proofs.YtneacgpmjlocjaaGreatDoor
open Go Go.RowKit
set_option maxRecDepth 100000
abbrev Slot:=Value→World→Prop
def Is(c:Value):Slot:=fun v _=>v=c
def Ext(w w':World):Prop:=Below w.heap.size w w'
def Stable(V:Slot):Prop:=∀v w w',V v w→Ext w w'→V v w'
def upd(A:Nat→Slot)(d:Nat)(V:Slot):Nat→Slot:=fun t=>if t=d then V else A t
def updo(A:Nat→Slot):Option Nat→Slot→(Nat→Slot)
 |some d,V=>upd A d V
 |none,_=>A
theorem Ext.refl(w:World):Ext w w:=Below.refl _ _
theorem Ext.trans {a b c:World}(h:Ext a b)(k:Ext b c):Ext a c:=Below.trans h (k.mono h.size)
theorem Ext.drew {a b:World}(h:Ext a b):Ext a b.drew:=Below.drew h
theorem Ext.alloc {a b:World}(h:Ext a b)(o:Obj):Ext a (b.alloc o):=Below.alloc h h.size o
theorem Ext.cell {a b:World}(h:Ext a b){p:Addr}{v:Value}(hv:a.cell? p=some v):b.cell? p=some v:=
 (Below.cell h (World.block_lt_of_cell? a p hv)).trans hv
theorem Ext.block {a b:World}(h:Ext a b){k:Nat}{o:Obj}(hv:a.heap[k]? =some o):b.heap[k]? =some o:=
 (Below.block h k (Array.getElem?_eq_some_iff.1 hv).1).trans hv
theorem stable_is(c:Value):Stable (Is c):=fun _ _ _ h _=>h
section
variable (P:Program) (ops:Array Oper) (H:World→Prop)
def Ob(A:Nat→Slot)(o:Oper)(V:Slot):Prop:=
 ∀ (a:Act)(w:World),H w→(∀t∈o.looksAt ops,A t (a.tmps.getD t undef) w)→
   if Region.wanted o (yielded ops a.tmps)then o.wp P a w (fun a' w'=>Ext w w'∧∃v,a'=a.put o.dst v∧V v w') (fun _ _ _=>False)else V undef w
def walkA:List Oper→(Nat→Slot)→(List Slot→Prop)→Prop
 |[],_,F=>F []
 |o::rest,A,F=>∃V,Stable V∧Ob P ops H A o V∧walkA rest (updo A o.dst V) (fun Vs=>F (V::Vs))
end
def fin(Qf:Act→World→Prop):List (Option Nat×Slot)→Act→World→Prop
 |[],a,w=>Qf a w
 |(d,V)::l,a,w=>∀x,V x w→fin Qf l (a.put d x) w
theorem fin_is(Qf:Act→World→Prop)(d:Option Nat)(c:Value)(l:List (Option Nat×Slot))(a:Act)(w:World):fin Qf ((d,Is c)::l) a w↔fin Qf l (a.put d c) w:=by
 simp [fin,Is]
theorem fin_nil(Qf:Act→World→Prop)(a:Act)(w:World):fin Qf [] a w↔Qf a w:=Iff.rfl
def reach(ops:Array Oper):Nat→Oper→Nat→Bool
 |0,_,_=>false
 |f+1,o,i=>o.after.any fun e=>Region.binds .any e&&(e.on==i||match ops[e.on]? with|some o'=>reach ops f o' i|none=>false)
def orderOk(ops:Array Oper)(np sz:Nat):Bool:=
 (List.range ops.size).all fun j=>
   match ops[j]? with
   |none=>false
   | some o=>
     (o.after.all fun e=> !Region.binds .any e||decide (e.on<j))&&
     (decide (j<np)||(List.range j).all fun i=>reach ops 8 o i)&&
     (match o.dst with|some d=>decide (d<sz)|none=>true)&&
     (List.range np).all fun i=>
       match ops[i]? with
       |none=>false
       | some oi=>
         match oi.dst with
         |none=>true
         | some d=>
           (decide (np≤j)||decide (i=j)||decide (o.dst≠some d))&&
           (decide (np≤j)|| !(o.looksAt ops).contains d||(if i<j then reach ops 8 o i else decide (i=j)||reach ops 8 oi j))
section sound
variable {P:Program} {H:World→Prop} {Q:Exit→Act→World→Prop}
def Aat(A:Nat→Slot)(ops:Array Oper)(Vs:List Slot):Nat→(Nat→Slot)
 |0=>A
 | j+1=>match ops[j]?,Vs[j]? with
   |some o,some V=>updo (Aat A ops Vs j) o.dst V
   |_,_=>Aat A ops Vs j
theorem walkA_out {ops:Array Oper}:∀(l:List Oper)(A:Nat→Slot)(F:List Slot→Prop),walkA P ops H l A F→
   ∃Vs,Vs.length=l.length∧F Vs∧∀j o V,l[j]? =some o→Vs[j]? =some V→Stable V∧Ob P ops H (Aat A l.toArray Vs j) o V
 |[],A,F,h=>⟨[],rfl,h,by simp⟩
 | o ::l,A,F,h=>by
   obtain⟨V,hs,ho,hr⟩:=h
   obtain⟨Vs,hl,hF,hall⟩:=walkA_out l _ _ hr
   refine⟨V::Vs,by simp [hl],hF,fun j o' V' h1 h2=> ?_⟩
   match j with
   | 0=>
     simp at h1 h2;subst h1;subst h2;exact⟨hs,ho⟩
   | j +1=>
     simp at h1 h2
     have:=hall j o' V' h1 h2
     have e:∀k,Aat A (o::l).toArray (V::Vs) (k+1)=Aat (updo A o.dst V) l.toArray Vs k:=by
       intro k
       induction k with
       |zero=>simp [Aat]
       |succ k ih=>rw [Aat,ih];simp [Aat]
     rw [e];exact this
theorem Oper.wp_mono2 {o:Oper}{a:Act}{w:World}{K K':Act→World→Prop}{Q Q':Exit→Act→World→Prop}(h:∀a w,K a w→K' a w)(hq:∀e a w,Q e a w→Q' e a w)
   (hh:o.wp P a w K Q):o.wp P a w K' Q':=by
 unfold Oper.wp at*
 generalize (execOp a.eval o).run P w=r at*
 cases r with
 | ok n w' =>
   cases n <;>simp only [Oper.upon]at hh⊢<;>
     first
       |exact h _ _ hh
       | exact Calls.mono hh (fun e w'' he=>by
           cases e
           · exact h _ _ he
           · exact hq _ _ _ he
           · obtain⟨a,w,hw⟩:=he;exact⟨a,w,hq _ _ _ hw⟩)
       |exact Rows.mono hh (fun _ _ he=>h _ _ he)
 |halt x w'=>cases x<;>simp only [Oper.upon]at hh⊢<;>exact hq _ _ _ hh
theorem Aat_cases {A:Nat→Slot}{l:List Oper}{Vs:List Slot}(hl:Vs.length=l.length):∀j,j≤l.length→∀t,
   (∃i o V,i<j∧l[i]? =some o∧Vs[i]? =some V∧o.dst=some t∧Aat A l.toArray Vs j t=V)∨((∀i o,i<j→l[i]? =some o→o.dst≠some t)∧Aat A l.toArray Vs j t=A t)
 |0,_,t=> .inr ⟨by intros;omega,rfl⟩
 | j + 1,hj,t=>by
   obtain⟨o,ho⟩:∃o,l[j]? =some o:=⟨_,List.getElem?_eq_getElem (by omega)⟩
   obtain⟨V,hV⟩:∃V,Vs[j]? =some V:=⟨_,List.getElem?_eq_getElem (by omega)⟩
   have e:Aat A l.toArray Vs (j+1)=updo (Aat A l.toArray Vs j) o.dst V:=by simp [Aat,ho,hV]
   rw [e]
   by_cases hd:o.dst=some t
   · exact .inl ⟨j,o,V,by omega,ho,hV,hd,by rw [hd];simp [updo,upd]⟩
   · have e2:updo (Aat A l.toArray Vs j) o.dst V t=Aat A l.toArray Vs j t:=by
       cases hd':o.dst with
       |none=>rfl
       |some d=>simp only [updo,upd];rw [if_neg];rintro rfl;exact hd hd'
     rw [e2]
     rcases Aat_cases hl j (by omega) t with ⟨i,o',V',h1,h2,h3,h4,h5⟩|⟨h1,h2⟩
     · exact .inl ⟨i,o',V',by omega,h2,h3,h4,h5⟩
     · refine .inr ⟨fun i o' hi ho'=> ?_,h2⟩
       by_cases hij:i=j
       · subst hij;rw [ho]at ho';cases ho';exact hd
       · exact h1 i o' (by omega) ho'
theorem put_size(a:Act)(d:Option Nat)(v:Value):(a.put d v).tmps.size=a.tmps.size:=by cases d<;>simp [Act.put]
theorem put_defers(a:Act)(d:Option Nat)(v:Value):(a.put d v).defers=a.defers:=by cases d<;>rfl
theorem put_ne(a:Act)(d:Option Nat)(v:Value)(t:Nat)(h:d≠some t):(a.put d v).tmps.getD t undef=a.tmps.getD t undef:=by
 cases d with
 |none=>rfl
 | some d=>
   have:d≠t:=fun e=>h (by rw [e])
   simp [Act.put,Array.getElem?_setIfInBounds_ne this]
theorem put_eq(a:Act)(d:Nat)(v:Value)(h:d<a.tmps.size):(a.put (some d) v).tmps.getD d undef=v:=by
 simp [Act.put,h]
theorem act_ext {a b:Act}(hs:a.tmps.size=b.tmps.size)(hd:a.defers=b.defers)(h:∀t,a.tmps.getD t undef=b.tmps.getD t undef):a=b:=by
 cases a;cases b
 simp only at hs hd h
 subst hd
 congr 1
 apply Array.ext hs
 intro i h1 h2
 have:=h i
 simpa [h1,h2]using this
theorem fin_out(Qf:Act→World→Prop){a:Act}{w:World}:∀(l:List (Option Nat×Slot))(a0:Act),fin Qf l a0 w→a0.tmps.size=a.tmps.size→a0.defers=a.defers→
   (∀d V,(d,V)∈l→∃v,V v w∧∀t,d=some t→t<a.tmps.size∧a.tmps.getD t undef=v)→
   (∀t,(∀d V,(d,V)∈l→d≠some t)→a0.tmps.getD t undef=a.tmps.getD t undef)→Qf a w
 | [],a0,h,hs,hd,_,h2=>by
   have:a0=a:=act_ext hs hd (fun t=>h2 t (by simp))
   subst this;exact h
 | (d,V)::l,a0,h,hs,hd,h1,h2=>by
   obtain⟨v,hv,hdv⟩:=h1 d V (by simp)
   refine fin_out Qf l (a0.put d v) (h v hv) (by rw [put_size];exact hs) (by rw [put_defers];exact hd) (fun d' V' hm=>h1 d' V' (by simp [hm])) (fun t ht=> ?_)
   by_cases hdt:d=some t
   · subst hdt
     rw [put_eq _ _ _ (by have:=(hdv t rfl).1;omega)]
     exact(hdv t rfl).2.symm
   · rw [put_ne _ _ _ _ hdt]
     refine h2 t (fun d' V' hm=> ?_)
     rcases List.mem_cons.1 hm with hm|hm
     · cases hm;exact hdt
     · exact ht d' V' hm
theorem getD_set(l:Array Bool)(i j:Nat)(hi:i<l.size):(l.setIfInBounds i true).getD j false=(if i=j then true else l.getD j false):=by
 by_cases h:i=j
 · subst h;simp [hi]
 · simp [Array.getElem?_setIfInBounds_ne h,h]
structure Ok (ops:Array Oper) (np sz:Nat):Prop where
 back:∀(j:Nat)(o:Oper)(e:Edge),ops[j]? =some o→e∈o.after→Region.binds .any e=true→e.on<j
 tail:∀(j:Nat)(o:Oper)(i:Nat),ops[j]? =some o→np≤j→i<j→reach ops 8 o i=true
 room:∀(j:Nat)(o:Oper)(d:Nat),ops[j]? =some o→o.dst=some d→d<sz
 one:∀(i j:Nat)(oi o:Oper)(d:Nat),ops[i]? =some oi→ops[j]? =some o→i<np→j<np→i≠j→oi.dst=some d→o.dst≠some d
 look:∀(i j:Nat)(oi o:Oper)(d:Nat),ops[i]? =some oi→ops[j]? =some o→i<np→j<np→oi.dst=some d→d∈o.looksAt ops→i<j→reach ops 8 o i=true
 later:∀(i j:Nat)(oi o:Oper)(d:Nat),ops[i]? =some oi→ops[j]? =some o→i<np→j<np→oi.dst=some d→d∈o.looksAt ops→j<i→reach ops 8 oi j=true
theorem reach_listed {ops:Array Oper}{L:Nat→Prop}(hc:∀(k:Nat)(o:Oper)(e:Edge),ops[k]? =some o→L k→e∈o.after→Region.binds .any e=true→L e.on):
   ∀(f:Nat)(o:Oper)(i:Nat),reach ops f o i=true→(∀e∈o.after,Region.binds .any e=true→L e.on)→L i
 |0,_,_,h,_=>by simp [reach]at h
 | f + 1,o,i,h,hd=>by
   unfold reach at h
   rw [Array.any_eq_true']at h
   obtain⟨e,he,h⟩:=h
   simp only [Bool.and_eq_true,Bool.or_eq_true,beq_iff_eq]at h
   obtain⟨hb,h⟩:=h
   rcases h with h|h
   · rw [←h];exact hd e he hb
   · cases ho:ops[e.on]? with
     |none=>rw [ho]at h;cases h
     | some o'=>
       rw [ho]at h
       exact reach_listed hc f o' i h fun e' he' hb'=>hc e.on o' e' ho (hd e he hb) he' hb'
theorem orderOk_out {ops:Array Oper}{np sz:Nat}(h:orderOk ops np sz=true):Ok ops np sz:=by
 unfold orderOk at h
 rw [List.all_eq_true]at h
 have g:∀j o,ops[j]? =some o→_:=fun j o ho=>by
   have:=h j (by rw [List.mem_range];exact(Array.getElem?_eq_some_iff.1 ho).1)
   rw [ho]at this
   simp only [Bool.and_eq_true,Array.all_eq_true_iff_forall_mem,List.all_eq_true,List.mem_range]at this
   exact this
 refine⟨fun j o e ho he hb=> ?_,fun j o i ho hj hi=> ?_,fun j o d ho hd=> ?_,fun i j oi o d hi hj hin hjn hne hd=> ?_,fun i j oi o d hi hj hin hjn hd hl hij=> ?_,fun i j oi o d hi hj hin hjn hd hl hij=> ?_⟩
 · have:=(g j o ho).1.1.1 e he
   simp only [hb,Bool.not_true,Bool.false_or,decide_eq_true_eq]at this
   exact this
 · have:=(g j o ho).1.1.2
   rw [Bool.or_eq_true]at this
   rcases this with h|h
   · simp at h;omega
   · rw [List.all_eq_true]at h
     exact h i (by simpa using hi)
 · have:=(g j o ho).1.2
   rw [hd]at this;simpa using this
 · have:=(g j o hj).2 i hin
   rw [hi]at this
   simp only [hd,Bool.and_eq_true,Bool.or_eq_true,decide_eq_true_eq]at this
   rcases this.1 with (h|h)|h
   · omega
   · exact absurd h hne
   · exact h
 · have:=(g j o hj).2 i hin
   rw [hi]at this
   simp only [hd,Bool.and_eq_true,Bool.or_eq_true,decide_eq_true_eq,if_pos hij]at this
   rcases this.2 with (h|h)|h
   · omega
   · simp [hl]at h
   · exact h
 · have:=(g j o hj).2 i hin
   rw [hi]at this
   simp only [hd,Bool.and_eq_true,Bool.or_eq_true,decide_eq_true_eq,if_neg (show¬i<j by omega)]at this
   rcases this.2 with (h|h)|h
   · omega
   · simp [hl]at h
   · rcases h with h|h
     · omega
     · exact h
theorem tail_ok {ops:Array Oper}{np sz:Nat}(ok:Ok ops np sz):∀(l:List Oper)(m:Nat)(listed:Array Bool)(a:Act)(w:World)(fuel:Nat),np≤m→m+l.length=ops.size→(∀j,l[j]? =ops[m+j]?)→
   listed.size=ops.size→(∀j,j<ops.size→listed.getD j false=decide (j<m))→l.length≤fuel→wpList P ops Q l a w→wpAny P .any ops Q fuel listed a w
 | [],m,listed,a,w,fuel,hm,hn,_,hsz,hl,_,h=>by
   have hr:Region.ready .any ops listed=[]:=by
     apply List.eq_nil_iff_forall_not_mem.2
     intro j hj
     obtain⟨h0,o,ho,_⟩:=mem_ready.1 hj
     have hlt:=(Array.getElem?_eq_some_iff.1 ho).1
     have:=hl j hlt
     simp at hn
     rw [show decide (j<m)=true by simp;omega]at this
     simp [hsz,hlt]at h0 this
     rw [h0]at this;cases this
   cases fuel with
   |zero=>exact⟨hr,h⟩
   |succ f=>exact⟨fun _=>h,by rw [hr];simp⟩
 |o::l,m,listed,a,w,0,_,_,_,_,_,hf,_=>by simp at hf
 | o :: l, m,listed,a,w,fuel+1,hm,hn,hi,hsz,hl,hf,h=>by
   have ho:ops[m]? =some o:=by simpa using (hi 0).symm
   have hmlt:=(Array.getElem?_eq_some_iff.1 ho).1
   have hrm:m∈Region.ready .any ops listed:=by
     refine mem_ready.2 ⟨?_,o,ho,fun e he hb=> ?_⟩
     · have:=hl m hmlt;simp [hsz,hmlt]at this⊢;exact this
     · have hlt:=ok.back m o e ho he hb
       rw [hl _ (by omega)];simpa using hlt
   have only :∀j∈Region.ready .any ops listed,j=m:=by
     intro j hj
     obtain⟨h0,oj,hoj,hall⟩:=mem_ready.1 hj
     have hlt:=(Array.getElem?_eq_some_iff.1 hoj).1
     by_cases hjm:j<m
     · have:=hl j hlt
       rw [show decide (j<m)=true by simpa using hjm]at this
       simp [hsz,hlt]at h0 this
       rw [h0]at this;cases this
     · by_cases hgt:m<j
       · have hL:listed.getD m false=true:=reach_listed (ops:=ops) (L:=fun k=>listed.getD k false=true)
           (fun k ok' e hk hLk he hb=>by
             have hklt:=(Array.getElem?_eq_some_iff.1 hk).1
             have:=hl k hklt
             rw [hLk]at this
             have hkm:k<m:=by simpa using this.symm
             have:=ok.back k ok' e hk he hb
             rw [hl e.on (by omega)];simp;omega)
           8 oj m (ok.tail j oj m hoj (by omega) hgt) hall
         rw [hl m hmlt]at hL;simp at hL
       · omega
   refine⟨fun hr=> ?_,fun j hj=> ?_⟩
   · rw [hr]at hrm;simp at hrm
   · obtain rfl:=only j hj
     have hK:∀a w,wpList P ops Q l a w→wpAny P .any ops Q fuel (listed.setIfInBounds j true) a w:=fun a w hw=>by
       refine tail_ok ok l (j+1) _ a w fuel (by omega) (by simp at hn;omega) (fun k=>by have:=hi (k+1);simpa [Nat.add_assoc,Nat.add_comm 1 k]using this) (by simpa using hsz) (fun k hk=> ?_) (by simp at hf;omega) hw
       rw [getD_set _ _ _ (by omega)]
       by_cases hkj:j=k
       · subst hkj;simp
       · rw [if_neg hkj,hl k hk];congr 1;rw [eq_iff_iff];omega
     unfold wpOp
     simp only [ho]
     unfold wpList at h
     split at h
     · rename_i hw;rw [if_pos hw];exact h.imp (Oper.wp_mono hK) id
     · rename_i hw;rw [if_neg hw];exact hK _ _ h
def isNew(o:Oper):Bool:=o.guard.isNone&&match o.op with| .alloc _| .box _ _=>true|_=>false
theorem new_wp {o:Oper}{a:Act}{w:World}{K:Act→World→Prop}{Q:Exit→Act→World→Prop}(hn:isNew o=true)(h:o.wp P a w K Q):
   o.wp P a w (fun a' w'=>K a' w'∧a'=a.put o.dst (.pointer (some ⟨w.heap.size,0,none⟩))∧w.heap.size<w'.heap.size) Q:=by
 unfold isNew at hn
 simp only [Bool.and_eq_true]at hn
 have hop:=hn.2
 unfold Oper.wp at*
 have key:∀(e:TypeId)(v:Value),(newVar e v).run P w= .ok ⟨w.heap.size,0,none⟩ (w.alloc (.cells v.cells e)):=by
   intro e v
   simp only [newVar,newRow,newObj,Sem.run_bind]
   rfl
 cases ho:o.op<;>rw [ho]at hop<;>simp at hop
 case alloc e=>
   unfold execOp at*
   simp only [ho,Instr.alloc,Sem.run_bind]at h⊢
   cases hz:(zeroValue e).run P w with
   | halt x w'=>
     rw [hz]at h
     cases x<;>simp only [Result.andThen,Oper.upon]at h⊢
     rename_i v
     unfold zeroValue typeInfo at hz
     simp only [Sem.run_bind,run_program,Result.andThen_ok]at hz
     cases hi:P.info? e with
     |none=>simp [hi,stuck]at hz
     |some i=>cases hzz:i.zero<;>simp [hi,hzz,unsupported]at hz
   | ok z w'=>
     have hww:w'=w:=by
       unfold zeroValue typeInfo at hz
       simp only [Sem.run_bind,run_program,Result.andThen_ok]at hz
       cases hi:P.info? e with
       |none=>simp [hi,stuck]at hz
       |some i=>cases hzz:i.zero<;>simp [hi,hzz,unsupported]at hz;exact hz.2.symm
     subst hww
     rw [hz]at h
     simp only [Result.andThen_ok,key,Sem.run_pure,Oper.upon]at h⊢
     exact⟨h,by simp,by simp⟩
 case box e x=>
   unfold execOp at*
   simp only [ho,Instr.box,Sem.run_bind,key,Result.andThen_ok,Sem.run_pure,Oper.upon]at h⊢
   exact⟨h,by simp,by simp⟩
structure Inv (H:World→Prop) (pre:List Oper) (Vs:List Slot) (a0:Act) (listed:Array Bool) (a:Act) (w:World):Prop where
 h:H w
 size:a.tmps.size=a0.tmps.size
 defers:a.defers=a0.defers
 closed:∀(j:Nat)(o:Oper)(e:Edge),pre[j]? =some o→listed.getD j false=true→e∈o.after→Region.binds .any e=true→listed.getD e.on false=true
 known:∀(i:Nat)(o:Oper)(V:Slot),pre[i]? =some o→Vs[i]? =some V→listed.getD i false=true→∃v,V v w∧∀t,o.dst=some t→a.tmps.getD t undef=v
 rest:∀t,(∀(i:Nat)(o:Oper),pre[i]? =some o→listed.getD i false=true→o.dst≠some t)→a.tmps.getD t undef=a0.tmps.getD t undef
 fresh:∀(i:Nat)(o:Oper)(d:Nat),pre[i]? =some o→isNew o=true→listed.getD i false=true→o.dst=some d→
   ∃ g,a.tmps.getD d undef= .pointer (some ⟨g,0,none⟩)∧g<w.heap.size∧
     ∀(j:Nat)(oj:Oper)(e:Nat),j≠i→pre[j]? =some oj→isNew oj=true→listed.getD j false=true→oj.dst=some e→a.tmps.getD e undef≠ .pointer (some ⟨g,0,none⟩)
def newsOf(pre:List Oper):List Nat:=pre.filterMap fun o=>if isNew o then o.dst else none
def Apart(ds:List Nat)(a:Act):Prop:=∀d∈ds,∀e∈ds,d≠e→a.tmps.getD d undef≠a.tmps.getD e undef
def left(listed:Array Bool):Nat:=(listed.toList.filter fun b=> !b).length
theorem left_set(listed:Array Bool)(i:Nat)(hi:i<listed.size)(h:listed.getD i false=false):left (listed.setIfInBounds i true)+1=left listed:=by
 unfold left
 obtain⟨l⟩:=listed
 simp only [sIB,List.size_toArray]at*
 have h':l[i]? =some false:=by
   simp at h hi;rw [List.getElem?_eq_getElem hi]at h⊢;simpa using h
 clear h
 induction l generalizing i with
 |nil=>simp at hi
 | cons b l ih=>
   cases i with
   |zero=>simp at h';subst h';simp
   | succ i=>
     have:=ih i (by simpa using hi) (by simpa using h')
     cases b<;>simp at this⊢<;>omega
theorem left_all(pre suf:Nat)(listed:Array Bool)(hsz:listed.size=pre+suf)(h1:∀j,j<pre→listed.getD j false=true)(h2:∀j,pre≤j→listed.getD j false=false):left listed=suf:=by
 have e:listed.toList=List.replicate pre true++List.replicate suf false:=by
   apply List.ext_getElem
   · simp [hsz]
   · intro i a b
     simp at a
     by_cases hi:i<pre
     · have:=h1 i hi
       simp [a]at this
       rw [List.getElem_append_left (by simpa using hi)];simpa using this
     · have:=h2 i (by omega)
       simp [a]at this
       rw [List.getElem_append_right (by simp;omega)];simpa using this
 unfold left
 rw [e];simp
theorem head_all {pre suf:List Oper}{Vs:List Slot}{a0:Act}(hVl:Vs.length=pre.length)
   (ok:Ok (pre++suf).toArray pre.length a0.tmps.size)
   (hfin:∀w',H w'→fin (fun a w=>Apart (newsOf pre) a→wpList P (pre++suf).toArray Q suf a w) ((pre.map (·.dst)).zip Vs) a0 w')
   (fuel:Nat) (listed:Array Bool) (a:Act) (w:World) (hsz:listed.size=(pre++suf).length) (hsuf:∀j,pre.length≤j→listed.getD j false=false) (hf:left listed≤fuel)
   (inv:Inv H pre Vs a0 listed a w) (hall:∀j,j<pre.length→listed.getD j false=true):wpAny P .any (pre++suf).toArray Q fuel listed a w:=by
 have hlf:=left_all pre.length suf.length listed (by simpa using hsz) hall hsuf
 refine tail_ok ok suf pre.length listed a w fuel (Nat.le_refl _) (by simp) (fun j=>by simp [List.getElem?_append_right (Nat.le_add_right pre.length j)]) (by simpa using hsz) (fun j hj=> ?_) (by omega) ?_
 · by_cases h:j<pre.length
   · rw [hall j h];simp [h]
   · rw [hsuf j (by omega)];simp [h]
 · have hap:Apart (newsOf pre) a:=by
     intro d hd e he hne
     obtain⟨od,hod,hd'⟩:=List.mem_filterMap.1 hd
     obtain⟨oe,hoe,he'⟩:=List.mem_filterMap.1 he
     by_cases nd:isNew od=true
     · by_cases ne:isNew oe=true
       · rw [if_pos nd]at hd'
         rw [if_pos ne]at he'
         obtain⟨i,hi,hio⟩:=List.getElem_of_mem hod
         obtain⟨j,hj,hjo⟩:=List.getElem_of_mem hoe
         have hi? :pre[i]? =some od:=by rw [List.getElem?_eq_getElem hi,hio]
         have hj? :pre[j]? =some oe:=by rw [List.getElem?_eq_getElem hj,hjo]
         have hij:j≠i:=by rintro rfl;rw [hi?]at hj?;cases hj?;rw [hd']at he';cases he';exact hne rfl
         obtain⟨g,hg,_,hno⟩:=inv.fresh i od d hi? nd (hall i hi) hd'
         rw [hg]
         exact fun h=>hno j oe e hij hj? ne (hall j hj) he' h.symm
       · rw [if_neg ne]at he';cases he'
     · rw [if_neg nd]at hd';cases hd'
   refine fin_out _ _ a0 (hfin w inv.h) inv.size.symm inv.defers.symm (fun d V hm=> ?_) (fun t ht=> ?_) hap
   · obtain⟨i,hi,he⟩:=List.getElem_of_mem hm
     simp only [List.length_zip,List.length_map]at hi
     simp only [List.getElem_zip,List.getElem_map,Prod.mk.injEq]at he
     obtain⟨v,hv,hd⟩:=inv.known i pre[i] Vs[i] (List.getElem?_eq_getElem (by omega)) (List.getElem?_eq_getElem (by omega)) (hall i (by omega))
     rw [←he.2]
     refine⟨v,hv,fun t ht=>⟨?_,hd t (by rw [he.1];exact ht)⟩⟩
     rw [inv.size]
     exact ok.room i pre[i] t (by simp [List.getElem?_append_left (show i<pre.length by omega)]) (by rw [he.1];exact ht)
   · refine(inv.rest t (fun i o ho _=> ?_)).symm
     have hlt:i<pre.length:=(List.getElem?_eq_some_iff.1 ho).1
     refine ht o.dst Vs[i] ?_
     refine List.mem_iff_getElem.2 ⟨i,by simp;omega, ?_⟩
     simp only [List.getElem_zip,List.getElem_map,Prod.mk.injEq,and_true]
     rw [(List.getElem?_eq_some_iff.1 ho).2]
theorem least_out (listed : Array Bool):∀n,(∀j,j<n→listed.getD j false=true)∨∃j,j<n∧listed.getD j false=false∧∀i,i<j→listed.getD i false=true
 |0=> .inl (by intros;omega)
 | n +1=>by
   rcases least_out listed n with h|⟨j,h1,h2,h3⟩
   · cases hb : listed.getD n false
     · exact .inr ⟨n,by omega,hb,h⟩
     · exact .inl (fun j hj => by by_cases e:j=n;· rw [e,hb]
                                  · exact h j (by omega))
   · exact .inr ⟨j,by omega,h2,h3⟩
theorem head_ok {pre suf:List Oper}{Vs:List Slot}{a0:Act}(hVl:Vs.length=pre.length)
   (ok:Ok (pre++suf).toArray pre.length a0.tmps.size) (hH:∀w w',H w→Ext w w'→H w')
   (hob:∀j o V,pre[j]? =some o→Vs[j]? =some V→Stable V∧Ob P (pre++suf).toArray H (Aat (fun t=>Is (a0.tmps.getD t undef)) pre.toArray Vs j) o V)
   (hfin:∀w',H w'→fin (fun a w=>Apart (newsOf pre) a→wpList P (pre++suf).toArray Q suf a w) ((pre.map (·.dst)).zip Vs) a0 w'):
   ∀ (fuel:Nat)(listed:Array Bool)(a:Act)(w:World),listed.size=(pre++suf).length→(∀j,pre.length≤j→listed.getD j false=false)→left listed≤fuel→
     Inv H pre Vs a0 listed a w→wpAny P .any (pre++suf).toArray Q fuel listed a w:=by
 intro fuel
 induction fuel with
 | zero=>
   intro listed a w hsz hsuf hf inv
   rcases least_out listed pre.length with hall|⟨j,h1,h2,h3⟩
   · exact head_all hVl ok hfin _ listed a w hsz hsuf hf inv hall
   · have:=left_set listed j (by rw [hsz];simp;omega) h2;omega
 | succ fuel ih=>
   intro listed a w hsz hsuf hf inv
   rcases least_out listed pre.length with hall|⟨jl,hl1,hl2,hl3⟩
   · exact head_all hVl ok hfin _ listed a w hsz hsuf hf inv hall
   have getp:∀j,j<pre.length→(pre++suf).toArray[j]? =pre[j]? :=fun j hj=>by simp [List.getElem?_append_left hj]
   refine⟨fun hr=> ?_,fun j hj=> ?_⟩
   · exfalso
     have ho:(pre++suf).toArray[jl]? =some pre[jl]:=by rw [getp jl hl1];exact List.getElem?_eq_getElem hl1
     have:jl∈Region.ready .any (pre++suf).toArray listed:=by
       refine mem_ready.2 ⟨?_,_,ho,fun e he hb=>hl3 _ (ok.back jl _ e ho he hb)⟩
       have hlt:jl<listed.size:=by rw [hsz];simp;omega
       simp [hlt]at hl2⊢;exact hl2
     rw [hr]at this;simp at this
   · obtain ⟨h0,o,ho,hedges⟩:=mem_ready.1 hj
     have hjlt:j<listed.size:=by rw [hsz];simpa using (Array.getElem?_eq_some_iff.1 ho).1
     have h0':listed.getD j false=false:=by simp [hjlt]at h0⊢;exact h0
     have hclosed:∀(k:Nat)(o:Oper)(e:Edge),(pre++suf).toArray[k]? =some o→listed.getD k false=true→e∈o.after→Region.binds .any e=true→listed.getD e.on false=true:=by
       intro k o' e hk hLk he hb
       by_cases hkp:k<pre.length
       · exact inv.closed k o' e (by rw [←getp k hkp];exact hk) hLk he hb
       · rw [hsuf k (by omega)]at hLk;cases hLk
     have hjp:j<pre.length:=by
       by_cases h:j<pre.length
       · exact h
       · have:=reach_listed (L:=fun k=>listed.getD k false=true) hclosed 8 o jl (ok.tail j o jl ho (by omega) (by omega)) hedges
         rw [hl2]at this;cases this
     have hop:pre[j]? =some o:=by rw [←getp j hjp];exact ho
     obtain⟨V,hV⟩:∃V,Vs[j]? =some V:=⟨_,List.getElem?_eq_getElem (by omega)⟩
     obtain⟨hst,hO⟩:=hob j o V hop hV
     have hlook:∀t∈o.looksAt (pre++suf).toArray,(Aat (fun t=>Is (a0.tmps.getD t undef)) pre.toArray Vs j) t (a.tmps.getD t undef) w:=by
       intro t ht
       rcases Aat_cases (A:=fun t=>Is (a0.tmps.getD t undef)) hVl j (by omega) t with ⟨i,oi,Vi,hij,hoi,hVi,hdi,he⟩|⟨hno,he⟩
       · rw [he]
         obtain⟨v,hv,hd⟩:=inv.known i oi Vi hoi hVi (reach_listed (L:=fun k=>listed.getD k false=true) hclosed 8 o i (ok.look i j oi o t (by rw [getp i (by omega)];exact hoi) ho (by omega) hjp hdi ht hij) hedges)
         rw [hd t hdi];exact hv
       · rw [he]
         show _=_
         refine inv.rest t (fun i oi hoi hli hdi=> ?_)
         have hip:i<pre.length:=(List.getElem?_eq_some_iff.1 hoi).1
         by_cases h1:i<j
         · exact hno i oi h1 hoi hdi
         · by_cases h2:i=j
           · subst h2;rw [h0']at hli;cases hli
           · have:=reach_listed (L:=fun k=>listed.getD k false=true) hclosed 8 oi j (ok.later i j oi o t (by rw [getp i hip];exact hoi) ho hip hjp hdi ht (by omega)) (fun e he hb=>inv.closed i oi e hoi hli he hb)
             rw [h0']at this;cases this
     have hob':=hO a w inv.h hlook
     have next :∀v w',Ext w w'→V v w'→(isNew o=true→∀d,o.dst=some d→v= .pointer (some ⟨w.heap.size,0,none⟩)∧w.heap.size<w'.heap.size)→
         wpAny P .any (pre++suf).toArray Q fuel (listed.setIfInBounds j true) (a.put o.dst v) w':=by
       intro v w' hext hVv hnew
       refine ih _ _ _ (by simpa using hsz) (fun k hk=> ?_) (by have:=left_set listed j hjlt h0';omega) ?_
       · rw [getD_set _ _ _ hjlt,if_neg (by omega)];exact hsuf k hk
       · refine⟨hH _ _ inv.h hext,by rw [put_size];exact inv.size,by rw [put_defers];exact inv.defers,fun i oi e hoi hli hem hb=> ?_,fun i oi Vi hoi hVi hli=> ?_,fun t ht=> ?_,fun i oi d hoi hni hli hd=> ?_⟩
         · rw [getD_set _ _ _ hjlt]at hli⊢
           split
           · rfl
           · by_cases hij:j=i
             · subst hij
               rw [hop]at hoi;cases hoi
               exact hedges e hem hb
             · rw [if_neg hij]at hli;exact inv.closed i oi e hoi hli hem hb
         · by_cases hij:j=i
           · subst hij
             rw [hop]at hoi;cases hoi
             rw [hV]at hVi;cases hVi
             refine⟨v,hVv,fun t ht=> ?_⟩
             rw [ht];exact put_eq _ _ _ (by rw [inv.size];exact ok.room j o t ho ht)
           · rw [getD_set _ _ _ hjlt,if_neg hij]at hli
             obtain⟨u,hu,hd⟩:=inv.known i oi Vi hoi hVi hli
             have hip:i<pre.length:=(List.getElem?_eq_some_iff.1 hoi).1
             have hsti:=(hob i oi Vi hoi hVi).1
             refine⟨u,hsti _ _ _ hu hext,fun t ht=> ?_⟩
             rw [put_ne _ _ _ _ (ok.one i j oi o t (by rw [getp i hip];exact hoi) ho hip hjp (fun e=>hij e.symm) ht)]
             exact hd t ht
         · have hdt:o.dst≠some t:=ht j o hop (by rw [getD_set _ _ _ hjlt,if_pos rfl])
           rw [put_ne _ _ _ _ hdt]
           refine inv.rest t (fun i oi hoi hli=>ht i oi hoi ?_)
           rw [getD_set _ _ _ hjlt];split
           · rfl
           · exact hli
         · -- new variables stay apart
           have size_le:w.heap.size≤w'.heap.size:=hext.size
           have other:∀(k:Nat)(ok':Oper)(dk:Nat),k≠j→pre[k]? =some ok'→ok'.dst=some dk→(a.put o.dst v).tmps.getD dk undef=a.tmps.getD dk undef:=by
             intro k ok' dk hk hok hdk
             have hkp:k<pre.length:=(List.getElem?_eq_some_iff.1 hok).1
             exact put_ne _ _ _ _ (ok.one k j ok' o dk (by rw [getp k hkp];exact hok) ho hkp hjp hk hdk)
           have own:∀dj,o.dst=some dj→(a.put o.dst v).tmps.getD dj undef=v:=by
             intro dj hdj;rw [hdj];exact put_eq _ _ _ (by rw [inv.size];exact ok.room j o dj ho hdj)
           by_cases hij:i=j
           · subst hij
             rw [hop]at hoi;cases hoi
             obtain⟨hv,hlt⟩:=hnew hni d hd
             refine⟨w.heap.size,by rw [own d hd,hv],hlt,fun k ok' e hk hok hnk hlk hek=> ?_⟩
             rw [getD_set _ _ _ hjlt,if_neg (fun h=>hk h.symm)]at hlk
             rw [other k ok' e hk hok hek]
             obtain⟨g,hg,hglt,_⟩:=inv.fresh k ok' e hok hnk hlk hek
             rw [hg];intro h;simp only [Value.pointer.injEq,Option.some.injEq,Addr.mk.injEq,and_true]at h;omega
           · rw [getD_set _ _ _ hjlt,if_neg (fun h=>hij h.symm)]at hli
             obtain⟨g,hg,hglt,hno⟩:=inv.fresh i oi d hoi hni hli hd
             refine⟨g,by rw [other i oi d hij hoi hd,hg],by omega,fun k ok' e hk hok hnk hlk hek=> ?_⟩
             by_cases hkj:k=j
             · subst hkj
               rw [hop]at hok;cases hok
               obtain⟨hv,_⟩:=hnew hnk e hek
               rw [own e hek,hv];intro h;simp only [Value.pointer.injEq,Option.some.injEq,Addr.mk.injEq,and_true]at h;omega
             · rw [getD_set _ _ _ hjlt,if_neg (fun h=>hkj h.symm)]at hlk
               rw [other k ok' e hkj hok hek]
               exact hno k ok' e hk hok hnk hlk hek
     unfold wpOp
     simp only [ho]
     split
     · rename_i hw
       rw [if_pos hw]at hob'
       by_cases hn:isNew o=true
       · refine .inl (Oper.wp_mono2 ?_ ?_ (new_wp hn hob'))
         · rintro a' w' ⟨⟨hext,v,rfl,hVv⟩,hpa,hlt⟩
           refine next v w' hext hVv fun _ d hd=>⟨?_,hlt⟩
           have:=congrArg (fun b=>b.tmps.getD d undef) hpa
           simp only [hd]at this
           rwa [put_eq _ _ _ (by rw [inv.size];exact ok.room j o d ho hd),put_eq _ _ _ (by rw [inv.size];exact ok.room j o d ho hd)]at this
         · intro _ _ _ h;exact h.elim
       · refine .inl (Oper.wp_mono2 ?_ ?_ hob')
         · rintro a' w' ⟨hext,v,rfl,hVv⟩
           exact next v w' hext hVv fun h=>absurd h hn
         · intro _ _ _ h;exact h.elim
     · rename_i hw
       rw [if_neg hw]at hob'
       refine next undef w (Ext.refl w) hob' fun hn=> ?_
       unfold isNew at hn
       simp only [Bool.and_eq_true,Option.isNone_iff_eq_none]at hn
       exact absurd (by simp [Region.wanted,hn.1]) hw
theorem region_walk {id:Nat}{pre suf:List Oper}{a0:Act}{w0:World}(H:World→Prop)(hm:P.follows .mixedOrders=true)
   (hB:orderOk (pre++suf).toArray pre.length a0.tmps.size=true) (hH:∀w w',H w→Ext w w'→H w') (hw:H w0.drew)
   (h:walkA P (pre++suf).toArray H pre (fun t=>Is (a0.tmps.getD t undef)) (fun Vs=>∀w',H w'→fin (fun a w=>Apart (newsOf pre) a→wpList P (pre++suf).toArray Q suf a w) ((pre.map (·.dst)).zip Vs) a0 w')):
   (Code.region id (pre++suf).toArray true).wp P Q a0 w0:=by
 obtain⟨Vs,hVl,hfin,hob⟩:=walkA_out _ _ _ h
 refine wp_region_any hm ?_
 refine head_ok hVl (orderOk_out hB) hH hob hfin _ _ _ _ (by simp) (fun j _=>by simp [Array.getElem?_replicate];split<;>rfl) ?_ ⟨hw,rfl,rfl, ?_, ?_,fun _ _=>rfl, ?_⟩
 · unfold left;refine Nat.le_trans (List.length_filter_le _ _) (by simp)
 · intro i o e hoi hli
   simp [Array.getElem?_replicate]at hli
   split at hli<;>simp at hli
 · intro i o V hoi hVi hli
   simp [Array.getElem?_replicate]at hli
   split at hli<;>simp at hli
 · intro i o d hoi _ hli
   simp [Array.getElem?_replicate]at hli
   split at hli<;>simp at hli
/-! ### The walk on a frame: slots that hold one value in every order stand in the frame, the others in a list -/
def gives(P:Program)(w:World)(V:Slot):Result Next→Prop
 | .ok (.value v) w'=>Ext w w'∧V v w'
 | .ok .skip w'=>Ext w w'∧V undef w'
 | .ok (.enter f args) w'=>Ext w w'∧Calls P f args w' fun
     | .returned v,w''=>Ext w' w''∧V v w''
     |_,_=>False
 |_=>False
theorem gives_val {w w':World}{V:Slot}{v:Value}(h:Ext w w')(hV:V v w'):gives P w V (.ok (.value v) w'):=⟨h,hV⟩
theorem gives_same {w:World}{v:Value}:gives P w (Is v) (.ok (.value v) w):=⟨Ext.refl w,rfl⟩
theorem gives_skip {w:World}:gives P w (Is undef) (.ok .skip w):=⟨Ext.refl w,rfl⟩
def Gives(P:Program)(f:FuncId)(args:Array Value)(w:World)(c:Value):Prop:=Calls P f args w fun e w'=>e= .returned c∧Ext w w'
def GivesR(P:Program)(f:FuncId)(args:Array Value)(w:World)(V:Slot):Prop:=Calls P f args w fun e w'=>∃v,e= .returned v∧V v w'∧Ext w w'
theorem gives_call {w:World}{f:FuncId}{args:Array Value}{c:Value}(h:Gives P f args w c):gives P w (Is c) (.ok (.enter f args) w):=
 ⟨Ext.refl w,h.mono fun e w' he=>by obtain⟨rfl,hx⟩:=he;exact⟨hx,rfl⟩⟩
theorem gives_callR {w:World}{f:FuncId}{args:Array Value}{V:Slot}(h:GivesR P f args w V):gives P w V (.ok (.enter f args) w):=
 ⟨Ext.refl w,h.mono fun e w' he=>by obtain⟨v,rfl,hv,hx⟩:=he;exact⟨hx,hv⟩⟩
theorem wp_of_gives {o:Oper}{a:Act}{w:World}{V:Slot}(h:gives P w V ((execOp a.eval o).run P w)):
   o.wp P a w (fun a' w'=>Ext w w'∧∃v,a'=a.put o.dst v∧V v w') (fun _ _ _=>False):=by
 unfold Oper.wp
 generalize (execOp a.eval o).run P w=r at*
 cases r with
 | ok n w'=>
   cases n<;>simp only [gives,Oper.upon]at h⊢
   · exact⟨h.1,_,rfl,h.2⟩
   · exact⟨h.1,_,rfl,h.2⟩
   · refine Calls.mono h.2 fun e w'' he=> ?_
     cases e with
     |returned v=>exact⟨h.1.trans he.1,v,rfl,he.2⟩
     |panicked c=>exact he
     |outgrown=>exact he.elim
 |halt x w'=>exact h.elim
def withS:List (Nat×Slot)→(Act→World→Prop)→Act→World→Prop
 |[],R,a,w=>R a w
 |(t,V)::S,R,a,w=>∀x,V x w→withS S R (a.put (some t) x) w
def looked(ops:Array Oper)(o:Oper)(p:Nat×Slot):Bool:=(o.looksAt ops).contains p.1
def dstOk(sz:Nat):Option Nat→List (Nat×Slot)→Bool
 |none,_=>true
 |some d,S=>decide (d<sz)&&S.all fun p=>p.1 !=d
def stepS(P:Program)(ops:Array Oper)(o:Oper)(a:Act)(S:List (Nat×Slot))(w:World)(V:Slot):Prop:=
 withS (S.filter (looked ops o)) (fun a w=>if Region.wanted o (yielded ops a.tmps)then gives P w V ((execOp a.eval o).run P w)else V undef w) a w
def walkS(P:Program)(ops:Array Oper)(H:World→Prop)(sz:Nat):List Oper→Act→List (Nat×Slot)→(List Slot→Prop)→Prop
 |[],_,_,F=>F []
 | o::rest,a,S,F=>
   dstOk sz o.dst S=true∧
   ((∃c,(∀w,H w→stepS P ops o a S w (Is c))∧walkS P ops H sz rest (a.put o.dst c) S (fun Vs=>F (Is c::Vs)))∨
    (∃V d,Stable V∧o.dst=some d∧(∀w,H w→stepS P ops o a S w V)∧walkS P ops H sz rest a ((d,V)::S) (fun Vs=>F (V::Vs))))
def slotOf:List (Nat×Slot)→Act→Nat→Slot
 |[],a,t=>Is (a.tmps.getD t undef)
 |(s,V)::S,a,t=>if s=t then V else slotOf S a t
theorem withS_out {R:Act→World→Prop}{w:World}:∀(S:List (Nat×Slot))(a:Act)(f:Nat→Value),withS S R a w→(∀p∈S,p.2 (f p.1) w)→(∀p∈S,p.1<a.tmps.size)→
   ∃a',R a' w∧a'.tmps.size=a.tmps.size∧∀t,a'.tmps.getD t undef=if (S.any fun p=>p.1==t)then f t else a.tmps.getD t undef
 |[],a,f,h,_,_=>⟨a,h,rfl,fun t=>by simp⟩
 | (s, V)::S,a,f,h,hf,hl=>by
   obtain⟨a',h1,h2,h3⟩:=withS_out S (a.put (some s) (f s)) f (h (f s) (hf (s,V) (by simp))) (fun p hp=>hf p (by simp [hp])) (fun p hp=>by rw [put_size];exact hl p (by simp [hp]))
   refine⟨a',h1,by rw [h2,put_size],fun t=> ?_⟩
   rw [h3 t]
   by_cases hS:(S.any fun p=>p.1==t)=true
   · simp [hS]
   · simp only [hS]
     by_cases hst:s=t
     · subst hst
       rw [put_eq _ _ _ (hl (s,V) (by simp))];simp
     · rw [put_ne _ _ _ _ (by simpa using hst)]
       simp [hst,hS]
theorem slotOf_mem {a:Act}{w:World}{v:Value}:∀(S:List (Nat×Slot))(t:Nat),slotOf S a t v w→(S.map (·.1)).Nodup→(∀p∈S,p.1=t→p.2 v w)∧((∀p∈S,p.1≠t)→v=a.tmps.getD t undef)
 |[],t,h,_=>⟨by simp,fun _=>h⟩
 | (s,V)::S,t,h,hn=>by
   simp only [mCo,List.nodup_cons]at hn
   simp only [slotOf]at h
   by_cases hst:s=t
   · subst hst
     rw [if_pos rfl]at h
     refine⟨fun p hp e=> ?_,fun hno=>absurd rfl (hno (s,V) (by simp))⟩
     rcases List.mem_cons.1 hp with rfl|hp
     · exact h
     · exact absurd (List.mem_map.2 ⟨p,hp,e⟩) hn.1
   · rw [if_neg hst]at h
     obtain⟨h1,h2⟩:=slotOf_mem S t h hn.2
     refine⟨fun p hp e=> ?_,fun hno=>h2 (fun p hp=>hno p (by simp [hp]))⟩
     rcases List.mem_cons.1 hp with rfl|hp
     · exact absurd e hst
     · exact h1 p hp e
theorem yielded_congr {ops:Array Oper}{x y:Array Value}{j:Nat}(h:∀d,((ops[j]?).bind (·.dst))=some d→x.getD d undef=y.getD d undef):yielded ops x j=yielded ops y j:=by
 unfold yielded
 cases hd:(ops[j]?).bind (·.dst)with
 |none=>rfl
 | some d=>
   have:=h d hd
   simp only [Option.bind_some,Array.getD_eq_getD_getElem?]at this⊢
   cases hx:x[d]? <;>cases hy:y[d]? <;>simp [hx,hy]at this⊢
   · subst this;simp [undef]
   · subst this;simp [undef]
   · subst this;rfl
theorem ob_of_step {ops:Array Oper}{A:Nat→Slot}{o:Oper}{V:Slot}{a0:Act}{S:List (Nat×Slot)}(hs:∀cs b,o.op≠ .select cs b)
   (hA:∀t,A t=slotOf S a0 t) (hn:(S.map (·.1)).Nodup) (hl:∀p∈S,p.1<a0.tmps.size) (h:∀w,H w→stepS P ops o a0 S w V):Ob P ops H A o V:=by
 intro a w hw hlook
 have hst:=h w hw
 unfold stepS at hst
 have key:∀t∈o.looksAt ops,(∀p∈S,p.1=t→p.2 (a.tmps.getD t undef) w)∧((∀p∈S,p.1≠t)→a.tmps.getD t undef=a0.tmps.getD t undef):=
   fun t ht=>slotOf_mem S t (by have:=hlook t ht;rwa [hA t]at this) hn
 obtain⟨a',h1,h2,h3⟩:=withS_out (S.filter (looked ops o)) a0 (fun t=>a.tmps.getD t undef) hst
   (fun p hp=>by
     obtain⟨hp,hk⟩:=List.mem_filter.1 hp
     exact(key p.1 (by simpa [looked]using hk)).1 p hp rfl)
   (fun p hp=>hl p (List.mem_filter.1 hp).1)
 have same:∀t∈o.looksAt ops,a'.tmps.getD t undef=a.tmps.getD t undef:=by
   intro t ht
   rw [h3 t]
   split
   · rfl
   · rename_i hno
     refine((key t ht).2 fun p hp e=>hno ?_).symm
     rw [List.any_eq_true]
     exact⟨p,List.mem_filter.2 ⟨hp,by unfold looked;rw [e];simpa using ht⟩,by simpa using e⟩
 have hwanted:Region.wanted o (yielded ops a'.tmps)=Region.wanted o (yielded ops a.tmps):=by
   unfold Region.wanted
   cases hg:o.guard with
   |none=>rfl
   | some g=>
     obtain⟨j,b⟩:=g
     simp only
     rw [yielded_congr (x:=a'.tmps) (y:=a.tmps) fun d hd=>same d (by simp [Oper.looksAt,hg,hd])]
 have hexec:execOp a'.eval o=execOp a.eval o:=execOp_congr o hs fun x hx=>by
   cases x with
   |tmp t=>exact same t (by unfold Oper.looksAt;exact List.mem_append_left _ (List.mem_filterMap.2 ⟨.tmp t,by simpa using hx,rfl⟩))
   |const v=>rfl
   |global g=>rfl
   |func f=>rfl
 rw [hwanted,hexec]at h1
 split
 · rename_i hw';rw [if_pos hw']at h1;exact wp_of_gives h1
 · rename_i hw';rw [if_neg hw']at h1;exact h1
theorem walkA_of_S {ops:Array Oper}{sz:Nat}:∀(l:List Oper)(a:Act)(S:List (Nat×Slot))(A:Nat→Slot)(F:List Slot→Prop),(∀o∈l,∀cs b,o.op≠ .select cs b)→
   (∀t,A t=slotOf S a t)→(S.map (·.1)).Nodup→(∀p∈S,p.1<sz)→a.tmps.size=sz→walkS P ops H sz l a S F→walkA P ops H l A F
 |[],_,_,_,_,_,_,_,_,_,h=>h
 | o :: l,a,S,A,F,hsel,hA,hn,hl,hsz,h=>by
   obtain⟨hd,h⟩:=h
   have hkeys:∀d,o.dst=some d→d<sz∧∀p∈S,p.1≠d:=by
     intro d e
     rw [e]at hd
     simp only [dstOk,Bool.and_eq_true,decide_eq_true_eq,List.all_eq_true,bne_iff_ne,ne_eq]at hd
     exact⟨hd.1,fun p hp=>by simpa using hd.2 p hp⟩
   have look:∀(S:List (Nat×Slot))(a' a:Act)(t:Nat),a'.tmps.getD t undef=a.tmps.getD t undef→slotOf S a' t=slotOf S a t:=by
     intro S a' a t e
     induction S with
     |nil=>simp only [slotOf,e]
     |cons p S ih=>obtain⟨s,V⟩:=p;simp only [slotOf,ih]
   have none_at:∀(S:List (Nat×Slot))(a:Act)(t:Nat),(∀p∈S,p.1≠t)→slotOf S a t=Is (a.tmps.getD t undef):=by
     intro S a t hno
     induction S with
     |nil=>rfl
     | cons p S ih=>
       obtain⟨s,V⟩:=p
       simp only [slotOf]
       rw [if_neg (hno (s,V) (by simp)),ih (fun q hq=>hno q (by simp [hq]))]
   rcases h with ⟨c,h1,h2⟩|⟨V,d,hst,hdst,h1,h2⟩
   · refine⟨Is c,stable_is c,ob_of_step (hsel o (by simp)) hA hn (by rw [hsz];exact hl) h1, ?_⟩
     refine walkA_of_S l (a.put o.dst c) S _ _ (fun o' ho'=>hsel o' (by simp [ho'])) (fun t=> ?_) hn hl (by rw [put_size];exact hsz) h2
     cases hdst:o.dst with
     |none=>exact hA t
     | some d=>
       simp only [updo,upd]
       split
       · rename_i e;subst e
         rw [none_at S _ _ (hkeys _ hdst).2,put_eq _ _ _ (by rw [hsz];exact(hkeys _ hdst).1)]
       · rename_i e
         rw [hA t,look S (a.put (some d) c) a t (put_ne _ _ _ _ (by simp only [ne_eq,Option.some.injEq];exact fun h=>e h.symm))]
   · refine⟨V,hst,ob_of_step (hsel o (by simp)) hA hn (by rw [hsz];exact hl) h1, ?_⟩
     refine walkA_of_S l a ((d,V)::S) _ _ (fun o' ho'=>hsel o' (by simp [ho'])) (fun t=> ?_) ?_ ?_ hsz h2
     · rw [hdst]
       simp only [updo,upd,slotOf]
       by_cases e:t=d
       · subst e;simp
       · rw [if_neg e,if_neg (fun h=>e h.symm),hA t]
     · simp only [mCo,List.nodup_cons]
       refine⟨fun hm=> ?_,hn⟩
       obtain⟨p,hp,e⟩:=List.mem_map.1 hm
       exact(hkeys d hdst).2 p hp e
     · intro p hp
       rcases List.mem_cons.1 hp with rfl|hp
       · exact(hkeys _ hdst).1
       · exact hl p hp
theorem region_S {id:Nat}{pre suf:List Oper}{a0:Act}{w0:World}(H:World→Prop)(sz:Nat)(hm:P.follows .mixedOrders=true)
   (hB:(orderOk (pre++suf).toArray pre.length sz&&Region.noSelect (pre++suf).toArray)=true) (hsz:a0.tmps.size=sz) (hH:∀w w',H w→Ext w w'→H w') (hw:H w0.drew)
   (h:walkS P (pre++suf).toArray H sz pre a0 [] (fun Vs=>∀w',H w'→fin (fun a w=>Apart (newsOf pre) a→wpList P (pre++suf).toArray Q suf a w) ((pre.map (·.dst)).zip Vs) a0 w')):
   (Code.region id (pre++suf).toArray true).wp P Q a0 w0:=by
 rw [Bool.and_eq_true]at hB
 subst hsz
 refine region_walk H hm hB.1 hH hw (walkA_of_S pre a0 [] _ _ (fun o ho cs b=> ?_) (fun t=>rfl) (by simp) (by simp) rfl h)
 obtain⟨i,hi,he⟩:=List.getElem_of_mem ho
 exact Region.noSelect_spec hB.2 i o cs b (by rw [←he];simp [List.getElem?_append_left hi])
theorem walk_is {ops:Array Oper}{sz:Nat}{o:Oper}{rest:List Oper}{a a':Act}{S:List (Nat×Slot)}{F:List Slot→Prop}{c:Value}(hd:dstOk sz o.dst S=true)(hS:S.filter (looked ops o)=[])
   (hg:Region.wanted o (yielded ops a.tmps)=true) (h:∀w,H w→gives P w (Is c) ((execOp a.eval o).run P w)) (ha:a.put o.dst c=a')
   (hr:walkS P ops H sz rest a' S (fun Vs=>F (Is c::Vs))):walkS P ops H sz (o::rest) a S F:=
 ⟨hd, .inl ⟨c,fun w hw=>by unfold stepS;rw [hS];simp only [withS,hg,if_true];exact h w hw,by rw [ha];exact hr⟩⟩
theorem walk_not {ops:Array Oper}{sz:Nat}{o:Oper}{rest:List Oper}{a a':Act}{S:List (Nat×Slot)}{F:List Slot→Prop}(hd:dstOk sz o.dst S=true)(hS:S.filter (looked ops o)=[])
   (hg:Region.wanted o (yielded ops a.tmps)=false) (ha:a.put o.dst undef=a')
   (hr:walkS P ops H sz rest a' S (fun Vs=>F (Is undef::Vs))):walkS P ops H sz (o::rest) a S F:=
 ⟨hd, .inl ⟨undef,fun w _=>by unfold stepS;rw [hS];simp only [withS,hg];rfl,by rw [ha];exact hr⟩⟩
theorem walk_some {ops:Array Oper}{sz:Nat}{o:Oper}{rest:List Oper}{a:Act}{S:List (Nat×Slot)}{F:List Slot→Prop}(V:Slot)(d:Nat)(hst:Stable V)(hdst:o.dst=some d)(hd:dstOk sz o.dst S=true)
   (hS:S.filter (looked ops o)=[]) (hg:Region.wanted o (yielded ops a.tmps)=true) (h:∀w,H w→gives P w V ((execOp a.eval o).run P w))
   (hr:walkS P ops H sz rest a ((d,V)::S) (fun Vs=>F (V::Vs))):walkS P ops H sz (o::rest) a S F:=
 ⟨hd, .inr ⟨V,d,hst,hdst,fun w hw=>by unfold stepS;rw [hS];simp only [withS,hg,if_true];exact h w hw,hr⟩⟩
theorem walk_from {ops:Array Oper}{sz:Nat}{o:Oper}{rest:List Oper}{a a':Act}{S T:List (Nat×Slot)}{F:List Slot→Prop}{c:Value}(hd:dstOk sz o.dst S=true)(hS:S.filter (looked ops o)=T)
   (h:∀w,H w→withS T (fun a w=>Region.wanted o (yielded ops a.tmps)=true∧gives P w (Is c) ((execOp a.eval o).run P w)) a w) (ha:a.put o.dst c=a')
   (hr:walkS P ops H sz rest a' S (fun Vs=>F (Is c::Vs))):walkS P ops H sz (o::rest) a S F:=by
 refine⟨hd, .inl ⟨c,fun w hw=> ?_,by rw [ha];exact hr⟩⟩
 unfold stepS
 rw [hS]
 have:=h w hw
 clear hd hS h ha hr hw
 induction T generalizing a with
 |nil=>obtain⟨h1,h2⟩:=this;simp only [withS,h1,if_true];exact h2
 |cons p T ih=>obtain⟨t,V⟩:=p;exact fun x hx=>ih (this x hx)
theorem walk_from_some {ops:Array Oper}{sz:Nat}{o:Oper}{rest:List Oper}{a:Act}{S T:List (Nat×Slot)}{F:List Slot→Prop}(V:Slot)(d:Nat)(hst:Stable V)(hdst:o.dst=some d)(hd:dstOk sz o.dst S=true)
   (hS:S.filter (looked ops o)=T)
   (h:∀w,H w→withS T (fun a w=>Region.wanted o (yielded ops a.tmps)=true∧gives P w V ((execOp a.eval o).run P w)) a w)
   (hr:walkS P ops H sz rest a ((d,V)::S) (fun Vs=>F (V::Vs))):walkS P ops H sz (o::rest) a S F:=by
 refine⟨hd, .inr ⟨V,d,hst,hdst,fun w hw=> ?_,hr⟩⟩
 unfold stepS
 rw [hS]
 have:=h w hw
 clear hd hS h hr hw
 induction T generalizing a with
 |nil=>obtain⟨h1,h2⟩:=this;simp only [withS,h1,if_true];exact h2
 |cons p T ih=>obtain⟨t,V⟩:=p;exact fun x hx=>ih (this x hx)
theorem region_new {id:Nat}{l:List Oper}{a0:Act}{w0:World}(n:Nat)(H:World→Prop)(sz:Nat)(hm:P.follows .mixedOrders=true)
   (hB:(orderOk l.toArray (l.take n).length sz&&Region.noSelect l.toArray)=true) (hsz:a0.tmps.size=sz) (hH:∀w w',H w→Ext w w'→H w') (hw:H w0.drew)
   (h:walkS P l.toArray H sz (l.take n) a0 [] (fun Vs=>∀w',H w'→fin (fun a w=>Apart (newsOf (l.take n)) a→wpList P l.toArray Q (l.drop n) a w) (((l.take n).map (·.dst)).zip Vs) a0 w')):
   (Code.region id l.toArray true).wp P Q a0 w0:=by
 have e:=List.take_append_drop n l
 have:=region_S (id:=id) (pre:=l.take n) (suf:=l.drop n) (a0:=a0) (w0:=w0) (Q:=Q) (P:=P) H sz hm (by rw [e];exact hB) hsz hH hw (by rw [e];exact h)
 rwa [e]at this
theorem fin_mono {Q1 Q2:Act→World→Prop}(h:∀a w,Q1 a w→Q2 a w):∀(l:List (Option Nat×Slot))(a:Act)(w:World),fin Q1 l a w→fin Q2 l a w
 |[],a,w,hf=>h a w hf
 |(_,_)::l,_,w,hf=>fun x hx=>fin_mono h l _ w (hf x hx)
theorem walkS_mono {ops:Array Oper}{sz:Nat}:∀(l:List Oper)(a:Act)(S:List (Nat×Slot))(F G:List Slot→Prop),(∀Vs,F Vs→G Vs)→walkS P ops H sz l a S F→walkS P ops H sz l a S G
 |[],_,_,_,_,hg,h=>hg _ h
 | o::l,a,S,F,G,hg,⟨hd,h⟩=>by
   refine⟨hd, ?_⟩
   rcases h with ⟨c,h1,h2⟩|⟨V,d,hst,hdst,h1,h2⟩
   · exact .inl ⟨c,h1,walkS_mono l _ _ _ _ (fun Vs=>hg _) h2⟩
   · exact .inr ⟨V,d,hst,hdst,h1,walkS_mono l _ _ _ _ (fun Vs=>hg _) h2⟩
theorem region_at {id:Nat}{l:List Oper}{a0:Act}{w0:World}(n:Nat)(H:World→Prop)(sz:Nat)(hm:P.follows .mixedOrders=true)
   (hB:(orderOk l.toArray (l.take n).length sz&&Region.noSelect l.toArray)=true) (hsz:a0.tmps.size=sz) (hH:∀w w',H w→Ext w w'→H w') (hw:H w0.drew)
   (h:walkS P l.toArray H sz (l.take n) a0 [] (fun Vs=>∀w',H w'→fin (wpList P l.toArray Q (l.drop n)) (((l.take n).map (·.dst)).zip Vs) a0 w')):
   (Code.region id l.toArray true).wp P Q a0 w0:=
 region_new n H sz hm hB hsz hH hw (walkS_mono _ _ _ _ _ (fun _ hF w' hw'=>fin_mono (Q2:=fun a w=>Apart (newsOf (l.take n)) a→wpList P l.toArray Q (l.drop n) a w) (fun _ _ q _=>q) _ _ _ (hF w' hw')) h)
theorem fin_cons(Qf:Act→World→Prop)(d:Option Nat)(V:Slot)(l:List (Option Nat×Slot))(a:Act)(w:World):fin Qf ((d,V)::l) a w=∀x,V x w→fin Qf l (a.put d x) w:=rfl
end sound
abbrev Byte:=BitVec 8
def RdB(w:World)(p:Option Addr)(l:List Byte):Prop:=
 (0<l.length→p.isSome=true)∧∀i,i<l.length→w.cell? ((p.getD default).add i)=some (v8 (l.getD i 0))
theorem RdB.isSome {w:World}{p:Option Addr}{l:List Byte}(h:RdB w p l)(i:Nat)(hi:i<l.length):p.isSome=true:=h.1 (by omega)
theorem RdB.at {w:World}{p:Option Addr}{l:List Byte}(h:RdB w p l)(i:Nat)(hi:i<l.length):w.cell? ((p.getD default).add i)=some (v8 (l.getD i 0)):=h.2 i hi
theorem RdB.ext {w w':World}{p:Option Addr}{l:List Byte}(h:RdB w p l)(hx:Ext w w'):RdB w' p l:=⟨h.1,fun i hi=>hx.cell (h.2 i hi)⟩
theorem RdB.nil(w:World)(p:Option Addr):RdB w p []:=⟨by simp,by simp⟩
def BytesS(l:List Byte):Slot:=fun v w=>∃p c,v= .slice p l.length c∧l.length≤c∧RdB w p l
theorem BytesS.stable(l:List Byte):Stable (BytesS l):=fun _ _ _ ⟨p,c,h1,h2,h3⟩ hx=>⟨p,c,h1,h2,h3.ext hx⟩
@[go_sem] theorem run_indexAt_opt {P : Program} (w : World) (t : TypeId) (p : Option Addr) (len cap : Nat) (k : IntKind) (i : Int) (h : P.underlying t = some (.slice (P.elem t))) (hp : p.isSome = true) :
   (Instr.indexAt t (.slice p len cap) (.int k i)).run P w=
     if 0≤i∧i<len then((sizeOf (P.elem t)).run P w).andThen fun s w=> .ok (.pointer (some ((p.getD default).add (i.toNat*s)))) w
     else(boundsPanic k i len .index).run P w:=by
 obtain⟨a,rfl⟩:=Option.isSome_iff_exists.1 hp
 exact run_indexAt_slice w t a len cap k i h
theorem Gives.of_same {P:Program}{f:FuncId}{args:Array Value}{w:World}{c:Value}(h:Calls P f args w fun e w'=>e= .returned c∧w=w'):Gives P f args w c:=
 h.mono fun _ _ ⟨he,hw⟩=>⟨he,by subst hw;exact Ext.refl w⟩
theorem drew_ext(w:World):Ext w w.drew:=Below.drew (Below.refl _ _)
/-! ### Blocks of the call's own -/
abbrev Row(w:World)(g:Nat)(t:TypeId)(cs:List Value):Prop:=w.heap[g]? =some (.cells cs.toArray t (0,0))
abbrev A8(l:List Byte):Value:= .agg (l.map v8).toArray
theorem row_lt {w:World}{g:Nat}{t:TypeId}{cs:List Value}(h:Row w g t cs):g<w.heap.size:=(Array.getElem?_eq_some_iff.1 h).1
theorem row_new(w:World)(t:TypeId)(cs:List Value):Row (w.alloc (.cells cs.toArray t)) w.heap.size t cs:=heap_alloc_new w _
theorem row_alloc {w:World}{g:Nat}{t:TypeId}{cs:List Value}(h:Row w g t cs)(o:Obj):Row (w.alloc o) g t cs:=by
 unfold Row;rw [Below.heap_alloc w o g (row_lt h)];exact h
theorem row_ext {w w':World}{g:Nat}{t:TypeId}{cs:List Value}(h:Row w g t cs)(hx:Ext w w'):Row w' g t cs:=hx.block h
theorem row_cell {w:World}{g:Nat}{t:TypeId}{cs:List Value}(h:Row w g t cs)(i:Nat):w.cell? ⟨g,i,none⟩=cs[i]? :=by
 rw [cell_of_row w g i _ t _ h];simp
theorem row_free {w:World}{g:Nat}{t:TypeId}{cs:List Value}(h:Row w g t cs)(i:Nat):w.frozen? ⟨g,i,none⟩=false:=frozen_of_row w g i _ t h
theorem row_set {w:World}{g:Nat}{t:TypeId}{cs:List Value}(h:Row w g t cs)(i:Nat)(v:Value):Row (w.setCell ⟨g,i,none⟩ v) g t (cs.set i v):=by
 unfold Row;rw [heap_setCell_same w g i _ t v h];simp
theorem row_other {w:World}{g:Nat}{t:TypeId}{cs:List Value}(h:Row w g t cs)(a:Addr)(v:Value)(hne:g≠a.block):Row (w.setCell a v) g t cs:=by
 unfold Row;rw [heap_setCell_other w a g v hne];exact h
theorem row_v8 {w:World}{g:Nat}{t:TypeId}{l:List Byte}(h:Row w g t (l.map v8))(i:Nat)(hi:i<l.length):w.cell? ⟨g,i,none⟩=some (v8 (l.getD i 0)):=by
 rw [row_cell h,List.getElem?_map,List.getElem?_eq_getElem hi];simp [hi]
theorem RdB.of_row {w:World}{g:Nat}{t:TypeId}{l:List Byte}(h:Row w g t (l.map v8)):RdB w (some ⟨g,0,none⟩) l:=
 ⟨fun _=>rfl,fun i hi=>by
   have:(⟨g,0,none⟩:Addr).add i=⟨g,i,none⟩:=by simp [Addr.add];omega
   show w.cell? ((⟨g,0,none⟩:Addr).add i)=_
   rw [this];exact row_v8 h i hi⟩
theorem run_storeAt_row {P:Program}{w:World}{g:Nat}{T t:TypeId}{cs0 cs:List Value}(h:Row w g t cs0)(hl:cs.length=cs0.length)(hi:(P.info? T).map (·.size)=some cs.length)(h1:∀v∈cs,v.oneCell'=true):
   (Instr.storeAt T (.pointer (some ⟨g,0,none⟩)) (.agg cs.toArray)).run P w= .ok () (w.setRow g cs.toArray):=by
 have hs:=run_storeCells_at P g 0 t cs 0 cs0.toArray w h (by simp;omega) h1
 simp only [Nat.zero_add,tZe,List.nil_append]at hs
 rw [show cs0.toArray.toList.drop cs.length=[]by simp [hl],List.append_nil]at hs
 obtain⟨i,hi1,hi2⟩:=Option.map_eq_some_iff.1 hi
 simp [Instr.storeAt,Instr.sureAddr,storeVar,sizeOf,typeInfo,hi1,hi2,Value.cells,hs]
theorem row_setRow {w:World}{g:Nat}{t:TypeId}{cs0:List Value}(h:Row w g t cs0)(cs:List Value):Row (w.setRow g cs.toArray) g t cs:=setRow_heap w g _ _ t _ h
theorem row_setRow_other {w:World}{g k:Nat}{t:TypeId}{cs0:List Value}(h:Row w k t cs0)(cs:Array Value)(hne:k≠g):Row (w.setRow g cs) k t cs0:=by
 unfold Row;rw [setRow_other w g k cs hne];exact h
theorem below_setRow {B:Nat}{w w':World}(h:Below B w w')(g:Nat)(cs:Array Value)(hg:B≤g):Below B w (w'.setRow g cs):=
 h.trans ⟨rfl,rfl,rfl,by simp,fun k hk=>setRow_other w' g k cs (by omega)⟩
theorem ext_setRow {w w':World}(h:Ext w w')(g:Nat)(cs:Array Value)(hg:w.heap.size≤g):Ext w (w'.setRow g cs):=below_setRow h g cs hg
theorem ext_setCell {w w':World}(h:Ext w w')(a:Addr)(v:Value)(hg:w.heap.size≤a.block):Ext w (w'.setCell a v):=Below.setCell h hg v
theorem run_loadAt_row {P:Program}{w:World}{g:Nat}{T t:TypeId}{cs:List Value}{d:TypeDesc}(h:Row w g t cs)(hu:P.underlying T=some d)(hd:(match d with| .struct _| .array _ _=>true|_=>false)=true)(hi:(P.info? T).map (·.size)=some cs.length):
   (Instr.loadAt T (.pointer (some ⟨g,0,none⟩))).run P w= .ok (.agg cs.toArray) w:=by
 simp only [Instr.loadAt,Instr.sureAddr,Sem.run_bind,Sem.run_pure,Result.andThen_ok]
 exact run_loadVar_row w g t T cs.toArray (0,0) d h hu hd (by simpa using hi)
theorem ret_row {P:Program}{fn:Func}{R:Ending→World→Prop}{a:Act}{w:World}{p:Tmp}{T t:TypeId}{g:Nat}{cs:List Value}{d:TypeDesc}(h:fn.results= #[.cell p T])(hp:a.tmps.getD p undef= .pointer (some ⟨g,0,none⟩))(hr:Row w g t cs)
   (hu:P.underlying T=some d) (hd:(match d with| .struct _| .array _ _=>true|_=>false)=true) (hi:(P.info? T).map (·.size)=some cs.length) (hf:a.defers=[]) (hR:R (.returned (.agg cs.toArray)) w):bodyPost P fn R .ret a w:=
 bodyPost_ret (results_cell_row h _ w g t cs.toArray (0,0) d hp hr hu hd (by simpa using hi)) hf hR
theorem one_v8(l:List Byte):∀v∈l.map v8,v.oneCell'=true:=by
 intro v hv;obtain⟨x,_,rfl⟩:=List.mem_map.1 hv;rfl
theorem wpList_want {P:Program}{ops:Array Oper}{Q:Exit→Act→World→Prop}{rest:List Oper}{o:Oper}{a:Act}{w:World}(hgd:Region.wanted o (yielded ops a.tmps)=true)
   (h:∀K:Act→World→Prop,(∀a w,wpList P ops Q rest a w→K a w)→o.wp P a w K Q):wpList P ops Q (o::rest) a w:=by
 unfold wpList
 rw [if_pos hgd]
 exact .inl (h _ (fun _ _ h=>h))
theorem wpl_store_row {P:Program}{ops:Array Oper}{Q:Exit→Act→World→Prop}{rest:List Oper}{o:Oper}{a:Act}{w:World}{T t:TypeId}{x y:Operand}{g:Nat}{cs0 cs:List Value}
   (hgd:Region.wanted o (yielded ops a.tmps)=true) (ho:o.op= .store T x y) (hx:a.eval x= .pointer (some ⟨g,0,none⟩)) (hy:a.eval y= .agg cs.toArray) (h:Row w g t cs0) (hl:cs.length=cs0.length) (hi:(P.info? T).map (·.size)=some cs.length) (h1:∀v∈cs,v.oneCell'=true)
   (hr:wpList P ops Q rest (a.put o.dst undef) (w.setRow g cs.toArray)):wpList P ops Q (o::rest) a w:=
 wpList_want hgd fun K hK=>by
   unfold Oper.wp execOp
   simp only [ho,hx,hy,Sem.run_bind,run_storeAt_row h hl hi h1,Result.andThen_ok]
   exact hK _ _ hr
theorem wpl_load_row {P:Program}{ops:Array Oper}{Q:Exit→Act→World→Prop}{rest:List Oper}{o:Oper}{a:Act}{w:World}{T t:TypeId}{x:Operand}{g:Nat}{cs:List Value}{d:TypeDesc}
   (hgd:Region.wanted o (yielded ops a.tmps)=true) (ho:o.op= .load T x) (hx:a.eval x= .pointer (some ⟨g,0,none⟩)) (h:Row w g t cs) (hu:P.underlying T=some d) (hd:(match d with| .struct _| .array _ _=>true|_=>false)=true) (hi:(P.info? T).map (·.size)=some cs.length)
   (hr:wpList P ops Q rest (a.put o.dst (.agg cs.toArray)) w):wpList P ops Q (o::rest) a w:=
 wpList_want hgd fun K hK=>by
   unfold Oper.wp execOp
   simp only [ho,hx,Sem.run_bind,run_loadAt_row h hu hd hi,Result.andThen_ok,Sem.run_pure]
   exact hK _ _ hr
def over(cur:List Byte)(o:Nat)(xs:List Byte):List Byte:=cur.take o++xs++cur.drop (o+xs.length)
theorem over_length(cur:List Byte)(o:Nat)(xs:List Byte)(h:o+xs.length≤cur.length):(over cur o xs).length=cur.length:=by
 simp [over];omega
theorem RdB.none {w:World}{l:List Byte}(h:RdB w none l):l=[]:=by
 cases l with
 |nil=>rfl
 |cons x l=>have:=h.1 (by simp);simp at this
theorem run_copy_bytes {P:Program}{w:World}{dT sT ty elem t:TypeId}{g o dLen dCap sCap:Nat}{p:Option Addr}{cur l:List Byte}(hu:P.underlying dT=some (.slice elem))(hs:(P.info? elem).map (·.size)=some 1)
   (hg:Row w g t (cur.map v8)) (hfit:o+dLen≤cur.length) (hr:RdB w p l):
   (Builtin.copy_ #[dT,sT] ty #[.slice (some ⟨g,o,Option.none⟩) dLen dCap, .slice p l.length sCap]).run P w= .ok (goInt (min l.length dLen:Nat)) (w.setRow g ((over cur o (l.take dLen)).map v8).toArray):=by
 cases p with
 | none=>
   have:=hr.none;subst this
   obtain⟨i,hi1,hi2⟩:=Option.map_eq_some_iff.1 hs
   have e:w.setRow g ((over cur o (([]:List Byte).take dLen)).map v8).toArray=w:=by
     have:over cur o (([]:List Byte).take dLen)=cur:=by simp [over]
     rw [this];exact setRow_self w g _ t (0,0) hg
   rw [e]
   simp [Builtin.copy_,run_underlying hu,Builtin.lenOf,Builtin.firstCells,sizeOf,typeInfo,hi1,storeCells]
 | some a=>
   have h:=run_copy_row (P:=P) w dT sT ty elem g o dLen dCap a l.length sCap ((cur.map v8).toArray) t ((l.take dLen).map v8) hu hs hg (by simp [Nat.min_comm])
     (fun j v hj=>by
       simp only [List.getElem?_map,List.getElem?_take]at hj
       by_cases hjd:j<dLen
       · rw [if_pos hjd]at hj
         obtain⟨x,hx,rfl⟩:=Option.map_eq_some_iff.1 hj
         obtain⟨hlt,hx'⟩:=List.getElem?_eq_some_iff.1 hx
         have:=hr.2 j hlt
         simp only [Option.getD_some]at this
         rw [this];simp [hlt,hx']
       · rw [if_neg hjd]at hj;simp at hj)
     (by simp;omega) (one_v8 _)
   rw [h]
   simp only [List.length_map,List.length_take,List.map_append,over,List.map_take,List.map_drop]
   rw [Nat.min_comm dLen l.length]
theorem wpl_copy {P:Program}{ops:Array Oper}{Q:Exit→Act→World→Prop}{rest:List Oper}{o:Oper}{a:Act}{w:World}{dT sT elem t:TypeId}{x y:Operand}{g k dLen dCap sCap:Nat}{p:Option Addr}{cur cur' l:List Byte}
   (hc:over cur k (l.take dLen)=cur') (hgd:Region.wanted o (yielded ops a.tmps)=true) (ho:o.op= .call {callee:= .builtin .copy,args:= #[x,y],argTypes:= #[dT,sT]}) (hx:a.eval x= .slice (some ⟨g,k,Option.none⟩) dLen dCap) {n:Nat} (hy:a.eval y= .slice p n sCap) (hn:n=l.length)
   (hu:P.underlying dT=some (.slice elem)) (hs:(P.info? elem).map (·.size)=some 1) (hg:Row w g t (cur.map v8)) (hfit:k+dLen≤cur.length) (hr:RdB w p l)
   (h:wpList P ops Q rest (a.put o.dst (goInt (min l.length dLen:Nat))) (w.setRow g (cur'.map v8).toArray)):wpList P ops Q (o::rest) a w:=
 wpList_want hgd fun K hK=>by
   subst hc hn
   unfold Oper.wp execOp
   simp only [ho,resolve,invoke,builtin,Sem.run_bind,Sem.run_pure,Result.andThen_ok,List.map_toArray,mCo,mNi,hx,hy,run_copy_bytes (ty:=o.type) hu hs hg hfit hr]
   exact hK _ _ h
def zeros(n:Nat):List Byte:=List.replicate n 0
theorem zeros_length(n:Nat):(zeros n).length=n:=by simp [zeros]
theorem madeCells_v8(n:Nat):madeCells #[Value.int .u8 0] n=((zeros n).map v8).toArray:=by
 unfold zeros
 apply Array.ext
 · simp [madeCells]
 · intro i h1 h2
   simp [madeCells,Nat.mod_one]at h1⊢
   rfl
theorem run_make_bytes {P:Program}{w:World}{t e:TypeId}{i:TypeInfo}(ht:P.underlying t=some (.slice e))(hi:P.info? e=some i)(hz:i.zero=some (.int .u8 0))(hs:i.size=1)(hb:i.bytes=1)(n:Nat)(hn:n≤281474976710656):
   (Instr.makeSlice t (.int .i64 n) (.int .i64 n)).run P w= .ok (.slice (some ⟨w.heap.size,0,Option.none⟩) n n) (w.alloc (.cells ((zeros n).map v8).toArray e)):=by
 have h:=run_make (P:=P) w t e i (.int .u8 0) ht hi hz .i64 .i64 n n (by omega) (Int.le_refl _) (by rw [hb];omega) (by omega)
 rw [h,hs,Nat.mul_one]
 simp only [Int.toNat_natCast,Value.cells,madeCells_v8]
theorem wpl_make {P:Program}{ops:Array Oper}{Q:Exit→Act→World→Prop}{rest:List Oper}{o:Oper}{a:Act}{w:World}{t e:TypeId}{x y:Operand}{n:Nat}{N M:Int}{i:TypeInfo}
   (hgd:Region.wanted o (yielded ops a.tmps)=true) (ho:o.op= .makeSlice t x y) (hx:a.eval x= .int .i64 N) (hy:a.eval y= .int .i64 M) (ht:P.underlying t=some (.slice e)) (hi:P.info? e=some i) (hz:i.zero=some (.int .u8 0)) (hs:i.size=1) (hb:i.bytes=1) (hN:N=(n:Int)) (hM:M=(n:Int)) (hn:n≤281474976710656)
   (h:wpList P ops Q rest (a.put o.dst (.slice (some ⟨w.heap.size,0,Option.none⟩) n n)) (w.alloc (.cells ((zeros n).map v8).toArray e))):wpList P ops Q (o::rest) a w:=
 wpList_want hgd fun K hK=>by
   subst hN hM
   unfold Oper.wp execOp
   simp only [ho,hx,hy,Sem.run_bind,run_make_bytes ht hi hz hs hb n hn,Result.andThen_ok,Sem.run_pure]
   exact hK _ _ h
def bstr(l:List Byte):ByteArray:=⟨(l.map UInt8.ofBitVec).toArray⟩
theorem bstr_inj {l m:List Byte}(h:(bstr l).toList=(bstr m).toList):l=m:=by
 rw [ByteArray.toList_eq,ByteArray.toList_eq]at h
 simp only [bstr]at h
 exact(List.map_inj_right (fun x y e=>by have:=congrArg UInt8.toBitVec e;simpa using this)).1 h
@[go_sem] theorem bstr_beq (l m : List Byte) : ((bstr l).toList == (bstr m).toList) = (l == m) := by
 rw [Bool.eq_iff_iff];simp only [beq_iff_eq]
 exact⟨bstr_inj,fun e=>by rw [e]⟩
theorem run_conv_str {P:Program}{w:World}{src dst e:TypeId}(hs:P.underlying src=some (.slice e))(he:P.underlying e=some (.int .u8))(hd:P.underlying dst=some .string){p:Option Addr}{l:List Byte}(c:Nat)(h:RdB w p l):
   (convert src dst (.slice p l.length c)).run P w= .ok (.string (bstr l)) w:=by
 cases p with
 | none=>
   have:=h.none;subst this
   rw [List.length_nil,run_convert_bytes_nil w src e hs he 0 c dst hd];rfl
 | some a=>
   rw [run_convert_bytes_string w src dst e _ _ c hs he hd]
   have hl:=run_loadCells_list (P:=P) w a (l.map v8) (fun j v hj=>by
     simp only [List.getElem?_map]at hj
     obtain⟨x,hx,rfl⟩:=Option.map_eq_some_iff.1 hj
     obtain⟨hlt,hx'⟩:=List.getElem?_eq_some_iff.1 hx
     have:=h.2 j hlt
     simp only [Option.getD_some]at this
     rw [this];simp [hlt,hx'])
   have e1:l.map v8=(l.map fun x=>(x.toNat:Int)).map (Value.int .u8):=by rw [List.map_map];rfl
   rw [List.length_map,e1]at hl
   rw [run_bytesToString w a l.length c _ hl,foldl_push_bytes]
   congr 2
   apply ByteArray.ext
   simp only [bstr]
   simp
def IsRow(k:IntKind)(w:World)(a:Option Addr)(len cap:Nat)(zs:List Int):Prop:=
 (a=none∧len=0∧cap=0∧zs=[])∨
 ∃x,a=some x∧len≤cap∧cap≤maxLen∧zs.length=cap∧(∀i,i<zs.length→w.cell? (x.add i)=some (.int k (zs.getD i 0)))∧∀n∈zs,(Lit.int k n).wf=true
theorem int_v8(n:Int)(h:(Lit.int .u8 n).wf=true):Value.int .u8 n=v8 (BitVec.ofInt 8 n):=by
 have hx:0≤n∧n≤255:=by simpa [Lit.wf,IntKind.min,IntKind.max,IntKind.signed,IntKind.bits]using h
 rw [←int8,IntWalk.u8_in _ hx]
theorem int_v16(n:Int)(h:(Lit.int .u16 n).wf=true):Value.int .u16 n=v16 (BitVec.ofInt 16 n):=by
 have hx:0≤n∧n≤65535:=by simpa [Lit.wf,IntKind.min,IntKind.max,IntKind.signed,IntKind.bits]using h
 rw [←int16,IntWalk.u16_in _ hx]
theorem int_v32(n:Int)(h:(Lit.int .u32 n).wf=true):Value.int .u32 n=v32 (BitVec.ofInt 32 n):=by
 have hx:0≤n∧n≤4294967295:=by simpa [Lit.wf,IntKind.min,IntKind.max,IntKind.signed,IntKind.bits]using h
 rw [←int32,IntWalk.u32_in _ hx]
theorem int_v64(n:Int)(h:(Lit.int .u64 n).wf=true):Value.int .u64 n=v64 (BitVec.ofInt 64 n):=by
 have hx:0≤n∧n≤18446744073709551615:=by simpa [Lit.wf,IntKind.min,IntKind.max,IntKind.signed,IntKind.bits]using h
 rw [←int64,IntWalk.u64_in _ hx]
theorem int_i64(n:Int)(h:(Lit.int .i64 n).wf=true): -9223372036854775808≤n∧n≤9223372036854775807:=by
 simpa [Lit.wf,IntKind.min,IntKind.max,IntKind.signed,IntKind.bits]using h
theorem rdB_of {w:World}{a:Option Addr}{len cap:Nat}{zs:List Int}(h:IsRow .u8 w a len cap zs):∃l:List Byte,len=l.length∧RdB w a l∧l.length≤cap∧l.length≤maxLen:=by
 rcases h with ⟨rfl,rfl,rfl,rfl⟩|⟨x,rfl,h1,h2,h3,h4,h5⟩
 · exact⟨[],rfl,RdB.nil _ _,Nat.le_refl _,by simp⟩
 · refine⟨(zs.take len).map (BitVec.ofInt 8),by simp;omega,⟨fun _=>rfl,fun i hi=> ?_⟩,by simp;omega,by simp;omega⟩
   simp at hi
   have hlt:i<zs.length:=by omega
   have:=h4 i hlt
   simp only [Option.getD_some]
   rw [this]
   have hm:zs[i]∈zs:=List.getElem_mem hlt
   rw [List.getD_eq_getElem?_getD,List.getD_eq_getElem?_getD,List.getElem?_eq_getElem hlt,List.getElem?_map,List.getElem?_take,if_pos (by omega),List.getElem?_eq_getElem hlt]
   exact congrArg some (int_v8 _ (h5 _ hm))
/-! ### Arrays of bytes held against each other -/
theorem run_part_v8 {P:Program}(w:World)(e:TypeId)(k:IntKind)(he:P.underlying e=some (.int k))(l:List Byte)(i:Nat)(hi:i<l.length):(part e (l.map v8).toArray i).run P w= .ok (v8 (l.getD i 0)) w:=by
 simp [part,isAgg,run_underlying he,hi]
theorem eq_loop(P:Program)(w:World)(f:Nat→Option Bool×Unit→Sem (ForInStep (Option Bool×Unit)))(l m:List Byte)(n:Nat)(hl:l.length=n)(hm:m.length=n)
   (hf:∀i s,i<n→(f i s).run P w= .ok (if l.getD i 0==m.getD i 0 then .yield (none,())else .done (some false,())) w):
   ∀k a,a+k=n→(forIn (List.range' a k) ((none:Option Bool),()) f).run P w= .ok (if l.drop a==m.drop a then(none,())else(some false,())) w:=by
 intro k
 induction k with
 | zero=>
   intro a ha
   have e1:l.drop a=[]:=List.drop_eq_nil_of_le (by omega)
   have e2:m.drop a=[]:=List.drop_eq_nil_of_le (by omega)
   rw [e1,e2]
   simp
 | succ k ih=>
   intro a ha
   have hla:a<l.length:=by omega
   have hma:a<m.length:=by omega
   simp only [List.range'_succ,List.forIn_cons,Sem.run_bind,hf a _ (by omega)]
   have e1:l.drop a=l.getD a 0::l.drop (a+1):=by rw [List.drop_eq_getElem_cons hla];simp [hla]
   have e2:m.drop a=m.getD a 0::m.drop (a+1):=by rw [List.drop_eq_getElem_cons hma];simp [hma]
   rw [e1,e2]
   by_cases h:l.getD a 0=m.getD a 0
   · rw [h]
     have:=ih (a+1) (by omega)
     simp only [beq_self_eq_true,if_true,Result.andThen_ok,this]
     simp
   · have hb:(l.getD a 0==m.getD a 0)=false:=by simpa using h
     rw [hb]
     have hc:(l.getD a 0::l.drop (a+1)==m.getD a 0::m.drop (a+1))=false:=by
       rw [beq_eq_false_iff_ne];intro e;exact h (List.cons.inj e).1
     rw [hc]
     simp only [Result.andThen_ok,Bool.false_eq_true,if_false,Sem.run_pure]
theorem run_equalIn_bytes {P:Program}(w:World)(d:Nat)(T e:TypeId)(n:Nat)(l m:List Byte)(hT:P.underlying T=some (.array n e))(he:P.underlying e=some (.int .u8))(hs:(P.info? e).map (·.size)=some 1)(hl:l.length=n)(hm:m.length=n):
   (Op.equalIn (d+2) T (A8 l) (A8 m)).run P w= .ok (l==m) w:=by
 obtain⟨i,hi1,hi2⟩:=Option.map_eq_some_iff.1 hs
 rw [Op.equalIn]
 simp only [Sem.run_bind,run_underlying hT,Result.andThen_ok,sizeOf,typeInfo,run_program,hi1,Sem.run_pure,hi2,Std.Legacy.Range.forIn_eq_forIn_range',Nat.mul_one,Std.Legacy.Range.size,Nat.sub_zero,Nat.add_sub_cancel,Nat.div_one]
 rw [eq_loop P w _ l m n hl hm ?hf n 0 (by omega)]
 case hf=>
   intro j s hj
   simp only [Sem.run_bind,run_part_v8 w e .u8 he l j (by omega),run_part_v8 w e .u8 he m j (by omega),Result.andThen_ok]
   rw [run_equalIn8 e _ _ P w d .u8 he]
   cases l.getD j 0==m.getD j 0<;>simp
 · simp only [dZe]
   cases l==m<;>simp
def NewS(B:Nat)(t:TypeId)(cs:List Value):Slot:=fun v w=>∃g,v= .pointer (some ⟨g,0,none⟩)∧B≤g∧Row w g t cs
theorem NewS.stable(B:Nat)(t:TypeId)(cs:List Value):Stable (NewS B t cs):=fun _ _ _ ⟨g,h1,h2,h3⟩ hx=>⟨g,h1,h2,row_ext h3 hx⟩
theorem gives_new {P:Program}{B:Nat}{t:TypeId}{cs:List Value}{w:World}(h:B≤w.heap.size):gives P w (NewS B t cs) (.ok (.value (.pointer (some ⟨w.heap.size,0,none⟩))) (w.alloc (.cells cs.toArray t))):=
 ⟨(Ext.refl w).alloc _,_,rfl,h,row_new w t cs⟩
theorem apart_of {ds:List Nat}{a:Act}(h:Apart ds a){d e g k:Nat}(hd:d∈ds)(he:e∈ds)(hne:d≠e)(h1:a.tmps.getD d undef= .pointer (some ⟨g,0,none⟩))(h2:a.tmps.getD e undef= .pointer (some ⟨k,0,none⟩)):g≠k:=by
 rintro rfl;exact h d hd e he hne (h1.trans h2.symm)
def nth {n:Nat}(l:List (BitVec n))(k:Nat):BitVec n:=l.getD k 0
def tab {n:Nat}(m:Nat)(f:Nat→BitVec n):List (BitVec n):=(List.range m).map f
def part {n:Nat}(m k:Nat)(f g:Nat→BitVec n):List (BitVec n):=tab m fun i=>if i<k then f i else g i
def setN {n:Nat}(l:List (BitVec n))(k:Nat)(x:BitVec n):List (BitVec n):=l.set k x
def zer {n:Nat}(m:Nat):List (BitVec n):=tab m fun _=>0
section
variable {n m k i:Nat} {f g:Nat→BitVec n} {l l':List (BitVec n)} {x:BitVec n}
theorem tab_length:(tab m f).length=m:=by simp [tab]
theorem part_length:(part m k f g).length=m:=by simp [part,tab]
theorem setN_length:(setN l k x).length=l.length:=by simp [setN]
theorem nth_tab(h:i<m):nth (tab m f) i=f i:=by simp [nth,tab,h]
theorem nth_tab_ge(h:m≤i):nth (tab m f) i=0:=by simp [nth,tab,h]
theorem nth_ge(h:l.length≤i):nth l i=0:=by simp [nth,h]
theorem nth_part_ge(h:i<m)(h2:k≤i):nth (part m k f g) i=g i:=by rw [part,nth_tab h,if_neg (by omega)]
theorem nth_set(h:i<l.length):nth (setN l k x) i=if k=i then x else nth l i:=by
 simp only [nth,setN,List.getD_eq_getElem?_getD,List.getElem?_set]
 by_cases e:k=i
 · subst e;simp [h]
 · simp [e]
theorem nth_ext(h:l.length=l'.length)(hh:∀i,i<l.length→nth l i=nth l' i):l=l':=by
 apply List.ext_getElem h
 intro i h1 h2
 have:=hh i h1
 simpa [nth,h1,h2]using this
theorem nth_get(h:i<l.length):nth l i=l[i]:=by simp [nth,h]
theorem tab_eq(h:l.length=m):l=tab m (nth l):=nth_ext (by rw [tab_length,h]) fun i hi=>by rw [nth_tab (by omega)]
theorem tab_ext(h:∀i,i<m→f i=g i):tab m f=tab m g:=nth_ext (by rw [tab_length,tab_length]) fun i hi=>by rw [tab_length]at hi;rw [nth_tab hi,nth_tab hi,h i hi]
theorem part_zero:part m 0 f g=tab m g:=tab_ext fun i _=>if_neg (by omega)
theorem part_all:part m m f g=tab m f:=tab_ext fun i h=>if_pos h
theorem part_set(h:k<m):setN (part m k f g) k (f k)=part m (k+1) f g:=
 nth_ext (by rw [setN_length,part_length,part_length]) fun i hi=>by
   rw [setN_length,part_length]at hi
   rw [nth_set (by rw [part_length];exact hi),part,nth_tab hi,part,nth_tab hi]
   by_cases e:k=i
   · subst e;rw [if_pos rfl,if_pos (by omega)]
   · rw [if_neg e];congr 1;rw [eq_iff_iff];omega
theorem part_set'(h:k<m)(hx:x=f k):setN (part m k f g) k x=part m (k+1) f g:=by rw [hx,part_set h]
theorem zer_length:(zer (n:=n) m).length=m:=tab_length
theorem zer_start:zer (n:=n) m=part m 0 f (fun _=>0):=by rw [part_zero];rfl
theorem part_start(h:l.length=m):l=part m 0 f (nth l):=by rw [part_zero];exact tab_eq h
end
attribute [simp] tab_length part_length setN_length zer_length zeros_length
class CellV {b:Nat} (f:BitVec b→Value):Prop where
 cells:∀x,(f x).cells= #[f x]
 one:∀x,(f x).oneCell'=true
instance:CellV v8:=⟨fun _=>rfl,fun _=>rfl⟩
instance:CellV v16:=⟨fun _=>rfl,fun _=>rfl⟩
instance:CellV v32:=⟨fun _=>rfl,fun _=>rfl⟩
instance:CellV v64:=⟨fun _=>rfl,fun _=>rfl⟩
theorem mapv_at {b k:Nat}(f:BitVec b→Value)(l:List (BitVec b))(h:k<l.length):(l.map f)[k]? =some (f (nth l k)):=by simp [nth,h]
theorem mapv_set {b k:Nat}(f:BitVec b→Value)(l:List (BitVec b))(x:BitVec b):(l.map f).set k (f x)=(setN l k x).map f:=by simp [setN,List.map_set]
theorem one_map {b:Nat}{f:BitVec b→Value}[CellV f](l:List (BitVec b)):∀v∈l.map f,v.oneCell'=true:=by
 intro v hv;obtain⟨x,_,rfl⟩:=List.mem_map.1 hv;exact CellV.one x
section
variable {k i:Nat}
theorem map8_at(l:List (BitVec 8))(h:k<l.length):(l.map v8)[k]? =some (v8 (nth l k)):=by simp [nth,h]
theorem map32_at(l:List (BitVec 32))(h:k<l.length):(l.map v32)[k]? =some (v32 (nth l k)):=by simp [nth,h]
theorem map64_at(l:List (BitVec 64))(h:k<l.length):(l.map v64)[k]? =some (v64 (nth l k)):=by simp [nth,h]
theorem map8_set(l:List (BitVec 8))(x:BitVec 8):(l.map v8).set k (v8 x)=(setN l k x).map v8:=by simp [setN,List.map_set]
end
end Go.Proofs.YtneacgpmjlocjaaGreatDoor
