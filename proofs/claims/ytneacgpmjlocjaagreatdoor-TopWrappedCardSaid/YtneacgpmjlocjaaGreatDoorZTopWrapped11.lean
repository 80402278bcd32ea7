/-
  Texts of the program, walked, and plain ones. Conditions: those written in each theorem.
-/
import Derived.Test.YtneacgpmjlocjaaGreatDoorZTopWrapped0
import Derived.Test.YtneacgpmjlocjaaGreatDoorZTopWrapped2
import Derived.Test.YtneacgpmjlocjaaGreatDoorZTopWrapped4
import Derived.Test.YtneacgpmjlocjaaGreatDoorZTopWrapped6
import Derived.Test.YtneacgpmjlocjaaGreatDoorZTopWrapped8
set_option linter.unusedSimpArgs false
set_option linter.unusedVariables false
set_option maxHeartbeats 16000000
namespace Go.Proofs.YtneacgpmjlocjaaGreatDoor
open Go Go.RowKit
set_option maxRecDepth 100000
abbrev PSlot:=Value→List (Option Value)→World→Prop
def PIs(c:Value):PSlot:=fun v _ _=>v=c
def PMk(i:Nat):PSlot:=fun v vs _=>vs[i]? =some (some v)
structure PStable (Sp:List (Option Value)→Nat→Value→World→World→Prop) (V:PSlot):Prop where
 ext:∀v vs w w',V v vs w→Ext w w'→V v vs w'
 mark:∀v vs i x w w',V v vs w→vs[i]? =some none→Sp vs i x w w'→V v (vs.set i (some x)) w'
def pupd(A:Nat→PSlot)(d:Nat)(V:PSlot):Nat→PSlot:=fun t=>if t=d then V else A t
def pupdo(A:Nat→PSlot):Option Nat→PSlot→(Nat→PSlot)
 |some d,V=>pupd A d V
 |none,_=>A
theorem pstable_is(Sp)(c:Value):PStable Sp (PIs c):=⟨fun _ _ _ _ h _=>h,fun _ _ _ _ _ _ h _ _=>h⟩
theorem pstable_mk(Sp)(i:Nat):PStable Sp (PMk i):=⟨fun _ _ _ _ h _=>h,fun v vs j x w w' h hj _=>by
 show(vs.set j (some x))[i]? =_
 by_cases e:j=i
 · subst e;rw [show vs[j]? =some (some v)from h]at hj;cases hj
 · rw [List.getElem?_set_ne e];exact h⟩
structure Marks where
 J:List (Option Value)→World→Prop
 Sp:List (Option Value)→Nat→Value→World→World→Prop
 jext:∀vs w w',J vs w→Ext w w'→J vs w'
 jmark:∀vs i x w w',J vs w→vs[i]? =some none→Sp vs i x w w'→J (vs.set i (some x)) w'
def behindAll(ops:Array Oper)(sp:List Nat)(o:Oper)(vs:List (Option Value)):Prop:=∀(i' k':Nat),sp[i']? =some k'→reach ops 8 o k'=true→∃x,vs[i']? =some (some x)
section
variable (P:Program) (ops:Array Oper) (K:Marks)
def PObO(A:Nat→PSlot)(o:Oper)(V:PSlot):Prop:=
 ∀ (a:Act)(vs:List (Option Value))(w:World),K.J vs w→(∀t∈o.looksAt ops,A t (a.tmps.getD t undef) vs w)→
   if Region.wanted o (yielded ops a.tmps)then o.wp P a w (fun a' w'=>Ext w w'∧∃v,a'=a.put o.dst v∧V v vs w') (fun _ _ _=>False)else V undef vs w
def PObM(sp:List Nat)(A:Nat→PSlot)(o:Oper)(i:Nat):Prop:=
 ∀ (a:Act)(vs:List (Option Value))(w:World),K.J vs w→vs[i]? =some none→behindAll ops sp o vs→(∀t∈o.looksAt ops,A t (a.tmps.getD t undef) vs w)→
   Region.wanted o (yielded ops a.tmps)=true∧o.wp P a w (fun a' w'=>∃v,a'=a.put o.dst v∧K.Sp vs i v w w') (fun _ _ _=>False)
def POb(sp:List Nat)(j:Nat)(A:Nat→PSlot)(o:Oper)(V:PSlot):Prop:=
 (sp.contains j=false∧PObO P ops K A o V)∨∃i,sp[i]? =some j∧V=PMk i∧PObM P ops K sp A o i
def pwalkA(sp:List Nat):Nat→List Oper→(Nat→PSlot)→(List PSlot→Prop)→Prop
 |_,[],_,F=>F []
 |j,o::rest,A,F=>∃V,PStable K.Sp V∧POb P ops K sp j A o V∧pwalkA sp (j+1) rest (pupdo A o.dst V) (fun Vs=>F (V::Vs))
end
def pfin(vs:List (Option Value))(Qf:Act→World→Prop):List (Option Nat×PSlot)→Act→World→Prop
 |[],a,w=>Qf a w
 |(d,V)::l,a,w=>∀x,V x vs w→pfin vs Qf l (a.put d x) w
theorem pfin_is(vs:List (Option Value))(Qf:Act→World→Prop)(d:Option Nat)(c:Value)(l:List (Option Nat×PSlot))(a:Act)(w:World):pfin vs Qf ((d,PIs c)::l) a w↔pfin vs Qf l (a.put d c) w:=by
 simp [pfin,PIs]
theorem pfin_nil(vs:List (Option Value))(Qf:Act→World→Prop)(a:Act)(w:World):pfin vs Qf [] a w↔Qf a w:=Iff.rfl
theorem pfin_cons(vs:List (Option Value))(Qf:Act→World→Prop)(d:Option Nat)(V:PSlot)(l:List (Option Nat×PSlot))(a:Act)(w:World):pfin vs Qf ((d,V)::l) a w=∀x,V x vs w→pfin vs Qf l (a.put d x) w:=rfl
def marksOk(np:Nat)(sp:List Nat):Bool:=
 (List.range sp.length).all fun i=>
   match sp[i]? with
   |none=>false
   |some k=>decide (k<np)&&(List.range sp.length).all fun i'=>(decide (i'=i)||match sp[i']? with|none=>false|some k'=>decide (k'≠k))
def Marks.of(J:List (Option Value)→World→Prop)(h:∀vs w w',J vs w→Ext w w'→J vs w'):Marks:=⟨J,fun vs i v _ w'=>J (vs.set i (some v)) w',h,fun _ _ _ _ _ _ _ h=>h⟩
section sound
variable {P:Program} {K:Marks} {Q:Exit→Act→World→Prop}
structure MOk (np:Nat) (sp:List Nat):Prop where
 lt:∀(i k:Nat),sp[i]? =some k→k<np
 one:∀(i i' k:Nat),sp[i]? =some k→sp[i']? =some k→i=i'
theorem marksOk_out {np:Nat}{sp:List Nat}(h:marksOk np sp=true):MOk np sp:=by
 unfold marksOk at h
 rw [List.all_eq_true]at h
 have g:∀(i k:Nat),sp[i]? =some k→k<np∧∀(i' k':Nat),sp[i']? =some k'→i'≠i→k'≠k:=fun i k hk=>by
   have:=h i (by rw [List.mem_range];exact(List.getElem?_eq_some_iff.1 hk).1)
   rw [hk]at this
   simp only [Bool.and_eq_true,decide_eq_true_eq,List.all_eq_true,List.mem_range]at this
   refine⟨this.1,fun i' k' hk' hne=> ?_⟩
   have h3:=this.2 i' (List.getElem?_eq_some_iff.1 hk').1
   rw [hk']at h3
   simp only [Bool.or_eq_true,decide_eq_true_eq]at h3
   rcases h3 with h3|h3
   · exact absurd h3 hne
   · exact h3
 refine⟨fun i k hk=>(g i k hk).1,fun i i' k hk hk'=> ?_⟩
 apply Classical.byContradiction;intro hne
 exact(g i k hk).2 i' k hk' (fun e=>hne e.symm) rfl
def PAat(A:Nat→PSlot)(ops:Array Oper)(Vs:List PSlot):Nat→(Nat→PSlot)
 |0=>A
 | j+1=>match ops[j]?,Vs[j]? with
   |some o,some V=>pupdo (PAat A ops Vs j) o.dst V
   |_,_=>PAat A ops Vs j
theorem pwalkA_out {ops:Array Oper}{sp:List Nat}:∀(l:List Oper)(j0:Nat)(A:Nat→PSlot)(F:List PSlot→Prop),pwalkA P ops K sp j0 l A F→
   ∃Vs,Vs.length=l.length∧F Vs∧∀j o V,l[j]? =some o→Vs[j]? =some V→PStable K.Sp V∧POb P ops K sp (j0+j) (PAat A l.toArray Vs j) o V
 |[],_,A,F,h=>⟨[],rfl,h,by simp⟩
 | o ::l,j0,A,F,h=>by
   obtain⟨V,hs,ho,hr⟩:=h
   obtain⟨Vs,hl,hF,hall⟩:=pwalkA_out l _ _ _ hr
   refine⟨V::Vs,by simp [hl],hF,fun j o' V' h1 h2=> ?_⟩
   match j with
   | 0=>
     simp at h1 h2;subst h1;subst h2;exact⟨hs,ho⟩
   | j +1=>
     simp at h1 h2
     have:=hall j o' V' h1 h2
     have e:∀k,PAat A (o::l).toArray (V::Vs) (k+1)=PAat (pupdo A o.dst V) l.toArray Vs k:=by
       intro k
       induction k with
       |zero=>simp [PAat]
       |succ k ih=>rw [PAat,ih];simp [PAat]
     rw [e,show j0+(j+1)=j0+1+j by omega];exact this
theorem PAat_cases {A:Nat→PSlot}{l:List Oper}{Vs:List PSlot}(hl:Vs.length=l.length):∀j,j≤l.length→∀t,
   (∃i o V,i<j∧l[i]? =some o∧Vs[i]? =some V∧o.dst=some t∧PAat A l.toArray Vs j t=V)∨((∀i o,i<j→l[i]? =some o→o.dst≠some t)∧PAat A l.toArray Vs j t=A t)
 |0,_,t=> .inr ⟨by intros;omega,rfl⟩
 | j + 1,hj,t=>by
   obtain⟨o,ho⟩:∃o,l[j]? =some o:=⟨_,List.getElem?_eq_getElem (by omega)⟩
   obtain⟨V,hV⟩:∃V,Vs[j]? =some V:=⟨_,List.getElem?_eq_getElem (by omega)⟩
   have e:PAat A l.toArray Vs (j+1)=pupdo (PAat A l.toArray Vs j) o.dst V:=by simp [PAat,ho,hV]
   rw [e]
   by_cases hd:o.dst=some t
   · exact .inl ⟨j,o,V,by omega,ho,hV,hd,by rw [hd];simp [pupdo,pupd]⟩
   · have e2:pupdo (PAat A l.toArray Vs j) o.dst V t=PAat A l.toArray Vs j t:=by
       cases hd':o.dst with
       |none=>rfl
       |some d=>simp only [pupdo,pupd];rw [if_neg];rintro rfl;exact hd hd'
     rw [e2]
     rcases PAat_cases hl j (by omega) t with ⟨i,o',V',h1,h2,h3,h4,h5⟩|⟨h1,h2⟩
     · exact .inl ⟨i,o',V',by omega,h2,h3,h4,h5⟩
     · refine .inr ⟨fun i o' hi ho'=> ?_,h2⟩
       by_cases hij:i=j
       · subst hij;rw [ho]at ho';cases ho';exact hd
       · exact h1 i o' (by omega) ho'
theorem pfin_out(Qf:Act→World→Prop){vs:List (Option Value)}{a:Act}{w:World}:∀(l:List (Option Nat×PSlot))(a0:Act),pfin vs Qf l a0 w→a0.tmps.size=a.tmps.size→a0.defers=a.defers→
   (∀d V,(d,V)∈l→∃v,V v vs w∧∀t,d=some t→t<a.tmps.size∧a.tmps.getD t undef=v)→
   (∀t,(∀d V,(d,V)∈l→d≠some t)→a0.tmps.getD t undef=a.tmps.getD t undef)→Qf a w
 | [],a0,h,hs,hd,_,h2=>by
   have:a0=a:=act_ext hs hd (fun t=>h2 t (by simp))
   subst this;exact h
 | (d,V)::l,a0,h,hs,hd,h1,h2=>by
   obtain⟨v,hv,hdv⟩:=h1 d V (by simp)
   refine pfin_out Qf l (a0.put d v) (h v hv) (by rw [put_size];exact hs) (by rw [put_defers];exact hd) (fun d' V' hm=>h1 d' V' (by simp [hm])) (fun t ht=> ?_)
   by_cases hdt:d=some t
   · subst hdt
     rw [put_eq _ _ _ (by have:=(hdv t rfl).1;omega)]
     exact(hdv t rfl).2.symm
   · rw [put_ne _ _ _ _ hdt]
     refine h2 t (fun d' V' hm=> ?_)
     rcases List.mem_cons.1 hm with hm|hm
     · cases hm;exact hdt
     · exact ht d' V' hm
structure PInv (K:Marks) (sp:List Nat) (pre:List Oper) (Vs:List PSlot) (a0:Act) (listed:Array Bool) (vs:List (Option Value)) (a:Act) (w:World):Prop where
 h:K.J vs w
 marked:∀(i k:Nat),sp[i]? =some k→(listed.getD k false=true↔∃x,vs[i]? =some (some x))
 most:vs.length=sp.length
 size:a.tmps.size=a0.tmps.size
 defers:a.defers=a0.defers
 closed:∀(j:Nat)(o:Oper)(e:Edge),pre[j]? =some o→listed.getD j false=true→e∈o.after→Region.binds .any e=true→listed.getD e.on false=true
 known:∀(i:Nat)(o:Oper)(V:PSlot),pre[i]? =some o→Vs[i]? =some V→listed.getD i false=true→∃v,V v vs w∧∀t,o.dst=some t→a.tmps.getD t undef=v
 rest:∀t,(∀(i:Nat)(o:Oper),pre[i]? =some o→listed.getD i false=true→o.dst≠some t)→a.tmps.getD t undef=a0.tmps.getD t undef
theorem phead_all {pre suf:List Oper}{Vs:List PSlot}{sp:List Nat}{a0:Act}(hVl:Vs.length=pre.length)
   (ok:Ok (pre++suf).toArray pre.length a0.tmps.size)
   (mok:MOk pre.length sp)
   (hfin:∀vs w',K.J vs w'→vs.length=sp.length→(∀i,i<sp.length→∃x,vs[i]? =some (some x))→pfin vs (wpList P (pre++suf).toArray Q suf) ((pre.map (·.dst)).zip Vs) a0 w')
   (fuel:Nat) (listed:Array Bool) (vs:List (Option Value)) (a:Act) (w:World) (hsz:listed.size=(pre++suf).length) (hsuf:∀j,pre.length≤j→listed.getD j false=false) (hf:left listed≤fuel)
   (inv:PInv K sp pre Vs a0 listed vs a w) (hall:∀j,j<pre.length→listed.getD j false=true):wpAny P .any (pre++suf).toArray Q fuel listed a w:=by
 have hlf:=left_all pre.length suf.length listed (by simpa using hsz) hall hsuf
 refine tail_ok ok suf pre.length listed a w fuel (Nat.le_refl _) (by simp) (fun j=>by simp [List.getElem?_append_right (Nat.le_add_right pre.length j)]) (by simpa using hsz) (fun j hj=> ?_) (by omega) ?_
 · by_cases h:j<pre.length
   · rw [hall j h];simp [h]
   · rw [hsuf j (by omega)];simp [h]
 · have hall2:∀i,i<sp.length→∃x,vs[i]? =some (some x):=fun i hi=>by
     have hk:sp[i]? =some sp[i]:=List.getElem?_eq_getElem hi
     exact(inv.marked _ _ hk).1 (hall _ (mok.lt _ _ hk))
   refine pfin_out _ _ a0 (hfin vs w inv.h inv.most hall2) inv.size.symm inv.defers.symm (fun d V hm=> ?_) (fun t ht=> ?_)
   · obtain⟨i,hi,he⟩:=List.getElem_of_mem hm
     simp only [List.length_zip,List.length_map]at hi
     simp only [List.getElem_zip,List.getElem_map,Prod.mk.injEq]at he
     obtain⟨v,hv,hd⟩:=inv.known i pre[i] Vs[i] (List.getElem?_eq_getElem (by omega)) (List.getElem?_eq_getElem (by omega)) (hall i (by omega))
     rw [←he.2]
     refine⟨v,hv,fun t ht=>⟨?_,hd t (by rw [he.1];exact ht)⟩⟩
     rw [inv.size]
     exact ok.room i pre[i] t (by simp [List.getElem?_append_left (show i<pre.length by omega)]) (by rw [he.1];exact ht)
   · refine(inv.rest t (fun i o ho _=> ?_)).symm
     have hlt:i<pre.length:=(List.getElem?_eq_some_iff.1 ho).1
     refine ht o.dst Vs[i] ?_
     refine List.mem_iff_getElem.2 ⟨i,by simp;omega, ?_⟩
     simp only [List.getElem_zip,List.getElem_map,Prod.mk.injEq,and_true]
     rw [(List.getElem?_eq_some_iff.1 ho).2]
theorem phead_ok {pre suf:List Oper}{Vs:List PSlot}{sp:List Nat}{a0:Act}(hVl:Vs.length=pre.length)
   (ok:Ok (pre++suf).toArray pre.length a0.tmps.size) (mok:MOk pre.length sp)
   (hob:∀j o V,pre[j]? =some o→Vs[j]? =some V→PStable K.Sp V∧POb P (pre++suf).toArray K sp j (PAat (fun t=>PIs (a0.tmps.getD t undef)) pre.toArray Vs j) o V)
   (hfin:∀vs w',K.J vs w'→vs.length=sp.length→(∀i,i<sp.length→∃x,vs[i]? =some (some x))→pfin vs (wpList P (pre++suf).toArray Q suf) ((pre.map (·.dst)).zip Vs) a0 w'):
   ∀ (fuel:Nat)(listed:Array Bool)(vs:List (Option Value))(a:Act)(w:World),listed.size=(pre++suf).length→(∀j,pre.length≤j→listed.getD j false=false)→left listed≤fuel→
     PInv K sp pre Vs a0 listed vs a w→wpAny P .any (pre++suf).toArray Q fuel listed a w:=by
 intro fuel
 induction fuel with
 | zero=>
   intro listed vs a w hsz hsuf hf inv
   rcases least_out listed pre.length with hall|⟨j,h1,h2,h3⟩
   · exact phead_all hVl ok mok hfin _ listed vs a w hsz hsuf hf inv hall
   · have:=left_set listed j (by rw [hsz];simp;omega) h2;omega
 | succ fuel ih=>
   intro listed vs a w hsz hsuf hf inv
   rcases least_out listed pre.length with hall|⟨jl,hl1,hl2,hl3⟩
   · exact phead_all hVl ok mok hfin _ listed vs a w hsz hsuf hf inv hall
   have getp:∀j,j<pre.length→(pre++suf).toArray[j]? =pre[j]? :=fun j hj=>by simp [List.getElem?_append_left hj]
   refine⟨fun hr=> ?_,fun j hj=> ?_⟩
   · exfalso
     have ho:(pre++suf).toArray[jl]? =some pre[jl]:=by rw [getp jl hl1];exact List.getElem?_eq_getElem hl1
     have:jl∈Region.ready .any (pre++suf).toArray listed:=by
       refine mem_ready.2 ⟨?_,_,ho,fun e he hb=>hl3 _ (ok.back jl _ e ho he hb)⟩
       have hlt:jl<listed.size:=by rw [hsz];simp;omega
       simp [hlt]at hl2⊢;exact hl2
     rw [hr]at this;simp at this
   · obtain ⟨h0,o,ho,hedges⟩:=mem_ready.1 hj
     have hjlt:j<listed.size:=by rw [hsz];simpa using (Array.getElem?_eq_some_iff.1 ho).1
     have h0':listed.getD j false=false:=by simp [hjlt]at h0⊢;exact h0
     have hclosed:∀(k:Nat)(o:Oper)(e:Edge),(pre++suf).toArray[k]? =some o→listed.getD k false=true→e∈o.after→Region.binds .any e=true→listed.getD e.on false=true:=by
       intro k o' e hk hLk he hb
       by_cases hkp:k<pre.length
       · exact inv.closed k o' e (by rw [←getp k hkp];exact hk) hLk he hb
       · rw [hsuf k (by omega)]at hLk;cases hLk
     have hjp:j<pre.length:=by
       by_cases h:j<pre.length
       · exact h
       · have:=reach_listed (L:=fun k=>listed.getD k false=true) hclosed 8 o jl (ok.tail j o jl ho (by omega) (by omega)) hedges
         rw [hl2]at this;cases this
     have hop:pre[j]? =some o:=by rw [←getp j hjp];exact ho
     obtain⟨V,hV⟩:∃V,Vs[j]? =some V:=⟨_,List.getElem?_eq_getElem (by omega)⟩
     obtain⟨hst,hO⟩:=hob j o V hop hV
     have hlook:∀t∈o.looksAt (pre++suf).toArray,(PAat (fun t=>PIs (a0.tmps.getD t undef)) pre.toArray Vs j) t (a.tmps.getD t undef) vs w:=by
       intro t ht
       rcases PAat_cases (A:=fun t=>PIs (a0.tmps.getD t undef)) hVl j (by omega) t with ⟨i,oi,Vi,hij,hoi,hVi,hdi,he⟩|⟨hno,he⟩
       · rw [he]
         obtain⟨v,hv,hd⟩:=inv.known i oi Vi hoi hVi (reach_listed (L:=fun k=>listed.getD k false=true) hclosed 8 o i (ok.look i j oi o t (by rw [getp i (by omega)];exact hoi) ho (by omega) hjp hdi ht hij) hedges)
         rw [hd t hdi];exact hv
       · rw [he]
         show _=_
         refine inv.rest t (fun i oi hoi hli hdi=> ?_)
         have hip:i<pre.length:=(List.getElem?_eq_some_iff.1 hoi).1
         by_cases h1:i<j
         · exact hno i oi h1 hoi hdi
         · by_cases h2:i=j
           · subst h2;rw [h0']at hli;cases hli
           · have:=reach_listed (L:=fun k=>listed.getD k false=true) hclosed 8 oi j (ok.later i j oi o t (by rw [getp i hip];exact hoi) ho hip hjp hdi ht (by omega)) (fun e he hb=>inv.closed i oi e hoi hli he hb)
             rw [h0']at this;cases this
     have next :∀v w' vs',(vs'=vs∧Ext w w'∧sp.contains j=false∨∃i,sp[i]? =some j∧vs[i]? =some none∧vs'=vs.set i (some v)∧K.Sp vs i v w w')→V v vs' w'→
         wpAny P .any (pre++suf).toArray Q fuel (listed.setIfInBounds j true) (a.put o.dst v) w':=by
       intro v w' vs' hst' hVv
       have hJ':K.J vs' w':=by
         rcases hst' with ⟨rfl,hx,_⟩|⟨i,_,hn,rfl,hx⟩
         · exact K.jext _ _ _ inv.h hx
         · exact K.jmark _ _ _ _ _ inv.h hn hx
       have hkeep:∀(U:PSlot) u,PStable K.Sp U→U u vs w→U u vs' w':=by
         intro U u hU hu
         rcases hst' with ⟨rfl,hx,_⟩|⟨i,_,hn,rfl,hx⟩
         · exact hU.ext _ _ _ _ hu hx
         · exact hU.mark _ _ _ _ _ _ hu hn hx
       have hmk:(∀(i k:Nat),sp[i]? =some k→((listed.setIfInBounds j true).getD k false=true↔∃x,vs'[i]? =some (some x)))∧vs'.length=sp.length:=by
         rcases hst' with ⟨rfl,hx,hc⟩|⟨i,hi,hl,rfl,hx⟩
         · refine⟨fun i k hk=> ?_,inv.most⟩
           have hne:j≠k:=by
             rintro rfl
             have:=List.mem_of_getElem? hk
             rw [List.contains_eq_mem]at hc
             simp [this]at hc
           rw [getD_set _ _ _ hjlt,if_neg hne];exact inv.marked i k hk
         · have hlt:i<vs.length:=(List.getElem?_eq_some_iff.1 hl).1
           refine⟨fun i' k hk=> ?_,by rw [List.length_set];exact inv.most⟩
           rw [getD_set _ _ _ hjlt]
           by_cases hne:j=k
           · subst hne
             have:=mok.one _ _ _ hi hk
             subst this
             simp [hlt]
           · have hii:i≠i':=by rintro rfl;rw [hi]at hk;cases hk;exact hne rfl
             rw [if_neg hne,inv.marked i' k hk,List.getElem?_set_ne hii]
       refine ih _ vs' _ _ (by simpa using hsz) (fun k hk=> ?_) (by have:=left_set listed j hjlt h0';omega) ?_
       · rw [getD_set _ _ _ hjlt,if_neg (by omega)];exact hsuf k hk
       · refine⟨hJ',hmk.1,hmk.2,by rw [put_size];exact inv.size,by rw [put_defers];exact inv.defers,fun i oi e hoi hli hem hb=> ?_,fun i oi Vi hoi hVi hli=> ?_,fun t ht=> ?_⟩
         · rw [getD_set _ _ _ hjlt]at hli⊢
           split
           · rfl
           · by_cases hij:j=i
             · subst hij
               rw [hop]at hoi;cases hoi
               exact hedges e hem hb
             · rw [if_neg hij]at hli;exact inv.closed i oi e hoi hli hem hb
         · by_cases hij:j=i
           · subst hij
             rw [hop]at hoi;cases hoi
             rw [hV]at hVi;cases hVi
             refine⟨v,hVv,fun t ht=> ?_⟩
             rw [ht];exact put_eq _ _ _ (by rw [inv.size];exact ok.room j o t ho ht)
           · rw [getD_set _ _ _ hjlt,if_neg hij]at hli
             obtain⟨u,hu,hd⟩:=inv.known i oi Vi hoi hVi hli
             have hip:i<pre.length:=(List.getElem?_eq_some_iff.1 hoi).1
             have hsti:=(hob i oi Vi hoi hVi).1
             refine⟨u,hkeep _ _ hsti hu,fun t ht=> ?_⟩
             rw [put_ne _ _ _ _ (ok.one i j oi o t (by rw [getp i hip];exact hoi) ho hip hjp (fun e=>hij e.symm) ht)]
             exact hd t ht
         · have hdt:o.dst≠some t:=ht j o hop (by rw [getD_set _ _ _ hjlt,if_pos rfl])
           rw [put_ne _ _ _ _ hdt]
           refine inv.rest t (fun i oi hoi hli=>ht i oi hoi ?_)
           rw [getD_set _ _ _ hjlt];split
           · rfl
           · exact hli
     rcases hO with ⟨hc,hO⟩|⟨i,hi,rfl,hO⟩
     · have hob':=hO a vs w inv.h hlook
       unfold wpOp
       simp only [ho]
       split
       · rename_i hw
         rw [if_pos hw]at hob'
         refine .inl (Oper.wp_mono2 ?_ ?_ hob')
         · rintro a' w' ⟨hext,v,rfl,hVv⟩
           exact next v w' vs (.inl ⟨rfl,hext,hc⟩) hVv
         · intro _ _ _ h;exact h.elim
       · rename_i hw
         rw [if_neg hw]at hob'
         exact next undef w vs (.inl ⟨rfl,Ext.refl w,hc⟩) hob'
     · have hlen:vs[i]? =some none:=by
         have h1:¬∃x,vs[i]? =some (some x):=fun h=>by
           have:=(inv.marked i j hi).2 h
           rw [h0']at this;cases this
         have hlt:i<vs.length:=by rw [inv.most];exact(List.getElem?_eq_some_iff.1 hi).1
         cases hv:vs[i]with
         |none=>rw [List.getElem?_eq_getElem hlt,hv]
         |some x=>exact absurd ⟨x,by rw [List.getElem?_eq_getElem hlt,hv]⟩ h1
       have hback:behindAll (pre++suf).toArray sp o vs:=fun i' k' hk' hr=>
         (inv.marked _ _ hk').1 (reach_listed (L:=fun k=>listed.getD k false=true) hclosed 8 o k' hr hedges)
       obtain⟨hw,hob'⟩:=hO a vs w inv.h hlen hback hlook
       have hmk:∀v,(PMk i) v (vs.set i (some v)) w:=fun v=>by
         show(vs.set i (some v))[i]? =_
         have hlt:=(List.getElem?_eq_some_iff.1 hlen).1
         simp [hlt]
       unfold wpOp
       simp only [ho]
       rw [if_pos hw]
       refine .inl (Oper.wp_mono2 ?_ ?_ hob')
       · rintro a' w' ⟨v,rfl,hS⟩
         exact next v w' (vs.set i (some v)) (.inr ⟨i,hi,hlen,rfl,hS⟩) (hmk v)
       · intro _ _ _ h;exact h.elim
theorem pregion_walk {id:Nat}{pre suf:List Oper}{a0:Act}{w0:World}(K:Marks)(sp:List Nat)(hm:P.follows .mixedOrders=true)
   (hB:orderOk (pre++suf).toArray pre.length a0.tmps.size=true) (hM:marksOk pre.length sp=true) (hw:K.J (List.replicate sp.length none) w0.drew)
   (h:pwalkA P (pre++suf).toArray K sp 0 pre (fun t=>PIs (a0.tmps.getD t undef)) (fun Vs=>∀vs w',K.J vs w'→vs.length=sp.length→(∀i,i<sp.length→∃x,vs[i]? =some (some x))→pfin vs (wpList P (pre++suf).toArray Q suf) ((pre.map (·.dst)).zip Vs) a0 w')):
   (Code.region id (pre++suf).toArray true).wp P Q a0 w0:=by
 obtain⟨Vs,hVl,hfin,hob⟩:=pwalkA_out _ _ _ _ h
 refine wp_region_any hm ?_
 refine phead_ok hVl (orderOk_out hB) (marksOk_out hM) (fun j o V h1 h2=>by have:=hob j o V h1 h2;rwa [Nat.zero_add]at this) hfin _ _ (List.replicate sp.length none) _ _ (by simp) (fun j _=>by simp [Array.getElem?_replicate];split<;>rfl) ?_ ⟨hw, ?_,by simp,rfl,rfl, ?_, ?_,fun _ _=>rfl⟩
 · unfold left;refine Nat.le_trans (List.length_filter_le _ _) (by simp)
 · intro i k _
   simp [Array.getElem?_replicate,List.getElem?_replicate]
   split<;>simp
 · intro i o e hoi hli
   simp [Array.getElem?_replicate]at hli
   split at hli<;>simp at hli
 · intro i o V hoi hVi hli
   simp [Array.getElem?_replicate]at hli
   split at hli<;>simp at hli
/-! ### The walk on a frame -/
def givesM(P:Program)(V:Value→World→Prop):Result Next→Prop
 | .ok (.value v) w'=>V v w'
 | .ok .skip w'=>V undef w'
 | .ok (.enter f args) w'=>Calls P f args w' fun
     | .returned v,w''=>V v w''
     |_,_=>False
 | .ok (.row row args) w'=>Rows P row args w' fun v w''=>V v w''
 |_=>False
theorem wp_of_givesM {o:Oper}{a:Act}{w:World}{V:Value→World→Prop}(h:givesM P V ((execOp a.eval o).run P w)):
   o.wp P a w (fun a' w'=>∃v,a'=a.put o.dst v∧V v w') (fun _ _ _=>False):=by
 unfold Oper.wp
 generalize (execOp a.eval o).run P w=r at*
 cases r with
 | ok n w'=>
   cases n<;>simp only [givesM,Oper.upon]at h⊢
   · exact⟨_,rfl,h⟩
   · exact⟨_,rfl,h⟩
   · refine Calls.mono h fun e w'' he=> ?_
     cases e with
     |returned v=>exact⟨v,rfl,he⟩
     |panicked c=>exact he
     |outgrown=>exact he.elim
   · exact Rows.mono h fun v w'' he=>⟨v,rfl,he⟩
 |halt x w'=>exact h.elim
def saidM:Option Nat→Act→(Value→Prop)→Prop
 |some d,a,X=>X (a.tmps.getD d undef)
 |none,_,X=>∀v,X v
theorem givesM_of_list {ops:Array Oper}{o:Oper}{a:Act}{w:World}{V:Value→World→Prop}(hd:∀d,o.dst=some d→d<a.tmps.size)(hw:Region.wanted o (yielded ops a.tmps)=true)
   (h:wpList P ops (fun e a' w'=>e= .normal∧a'.defers=a.defers∧saidM o.dst a' fun v=>V v w') [o] a w):givesM P V ((execOp a.eval o).run P w):=by
 unfold wpList at h
 rw [if_pos hw]at h
 have nolet:¬LetsOut (fun e (a':Act) w'=>e=Exit.normal∧a'.defers=a.defers∧saidM o.dst a' fun v=>V v w'):=by
   rintro ⟨_,_,h,_⟩;cases h
 rcases h with h|⟨_,h⟩
 · unfold Oper.wp at h
   generalize (execOp a.eval o).run P w=r at*
   have key:∀v w',wpList P ops (fun e a' w'=>e= .normal∧a'.defers=a.defers∧saidM o.dst a' fun v=>V v w') [] (a.put o.dst v) w'→V v w':=fun v w' hv=>by
     have:=hv.2.2
     cases hdst:o.dst with
     |none=>rw [hdst]at this;exact this v
     |some d=>rw [hdst]at this;simp only [saidM]at this;rwa [put_eq _ _ _ (hd d hdst)]at this
   cases r with
   | ok n w'=>
     cases n<;>simp only [Oper.upon]at h<;>simp only [givesM]
     · exact key _ _ h
     · exact key _ _ h
     · exact Calls.mono h fun e w'' he=>by
         cases e with
         |returned v=>exact key _ _ he
         |panicked c=>exact absurd he.1 (by intro h;cases h)
         |outgrown=>exact nolet he
     · have:=h.2.1;rw [put_defers]at this;exact absurd (congrArg List.length this) (by simp)
     · exact Rows.mono h fun v w'' he=>key _ _ he
   | halt x w'=>
     cases x<;>simp only [Oper.upon]at h<;>first|exact h.elim|(exact absurd h.1 (by intro h;cases h))
 · exact absurd h nolet
def pwithS(vs:List (Option Value)):List (Nat×PSlot)→(Act→World→Prop)→Act→World→Prop
 |[],R,a,w=>R a w
 |(t,V)::S,R,a,w=>∀x,V x vs w→pwithS vs S R (a.put (some t) x) w
def plooked(ops:Array Oper)(o:Oper)(p:Nat×PSlot):Bool:=(o.looksAt ops).contains p.1
def pdstOk(sz:Nat):Option Nat→List (Nat×PSlot)→Bool
 |none,_=>true
 |some d,S=>decide (d<sz)&&S.all fun p=>p.1 !=d
def pstepS(P:Program)(ops:Array Oper)(o:Oper)(a:Act)(S:List (Nat×PSlot))(vs:List (Option Value))(w:World)(V:PSlot):Prop:=
 pwithS vs (S.filter (plooked ops o)) (fun a w=>if Region.wanted o (yielded ops a.tmps)then gives P w (fun v w'=>V v vs w') ((execOp a.eval o).run P w)else V undef vs w) a w
def pstepM(P:Program)(ops:Array Oper)(K:Marks)(i:Nat)(o:Oper)(d:Option Nat)(a:Act)(S:List (Nat×PSlot))(vs:List (Option Value))(w:World):Prop:=
 pwithS vs (S.filter (plooked ops o)) (fun a w=>Region.wanted o (yielded ops a.tmps)=true∧wpList P ops (fun e a' w'=>e= .normal∧a'.defers=a.defers∧saidM d a' fun v=>K.Sp vs i v w w') [o] a w) a w
def putS:Option Nat→PSlot→List (Nat×PSlot)→List (Nat×PSlot)
 |some d,V,S=>(d,V)::S
 |none,_,S=>S
def pwalkS(P:Program)(ops:Array Oper)(K:Marks)(sp:List Nat)(sz:Nat):Nat→List Oper→Act→List (Nat×PSlot)→(List PSlot→Prop)→Prop
 |_,[],_,_,F=>F []
 | j,o::rest,a,S,F=>
   pdstOk sz o.dst S=true∧
   ((sp.contains j=false∧∃c,(∀vs w,K.J vs w→pstepS P ops o a S vs w (PIs c))∧pwalkS P ops K sp sz (j+1) rest (a.put o.dst c) S (fun Vs=>F (PIs c::Vs)))∨
    (sp.contains j=false∧∃V d,PStable K.Sp V∧o.dst=some d∧(∀vs w,K.J vs w→pstepS P ops o a S vs w V)∧pwalkS P ops K sp sz (j+1) rest a ((d,V)::S) (fun Vs=>F (V::Vs)))∨
    (∃i,sp[i]? =some j∧(∀vs w,K.J vs w→vs[i]? =some none→behindAll ops sp o vs→pstepM P ops K i o o.dst a S vs w)∧pwalkS P ops K sp sz (j+1) rest a (putS o.dst (PMk i) S) (fun Vs=>F (PMk i::Vs))))
def pslotOf:List (Nat×PSlot)→Act→Nat→PSlot
 |[],a,t=>PIs (a.tmps.getD t undef)
 |(s,V)::S,a,t=>if s=t then V else pslotOf S a t
theorem pwithS_out {vs:List (Option Value)}{R:Act→World→Prop}{w:World}:∀(S:List (Nat×PSlot))(a:Act)(f:Nat→Value),pwithS vs S R a w→(∀p∈S,p.2 (f p.1) vs w)→(∀p∈S,p.1<a.tmps.size)→
   ∃a',R a' w∧a'.tmps.size=a.tmps.size∧∀t,a'.tmps.getD t undef=if (S.any fun p=>p.1==t)then f t else a.tmps.getD t undef
 |[],a,f,h,_,_=>⟨a,h,rfl,fun t=>by simp⟩
 | (s, V)::S,a,f,h,hf,hl=>by
   obtain⟨a',h1,h2,h3⟩:=pwithS_out S (a.put (some s) (f s)) f (h (f s) (hf (s,V) (by simp))) (fun p hp=>hf p (by simp [hp])) (fun p hp=>by rw [put_size];exact hl p (by simp [hp]))
   refine⟨a',h1,by rw [h2,put_size],fun t=> ?_⟩
   rw [h3 t]
   by_cases hS:(S.any fun p=>p.1==t)=true
   · simp [hS]
   · simp only [hS]
     by_cases hst:s=t
     · subst hst
       rw [put_eq _ _ _ (hl (s,V) (by simp))];simp
     · rw [put_ne _ _ _ _ (by simpa using hst)]
       simp [hst,hS]
theorem pslotOf_mem {a:Act}{vs:List (Option Value)}{w:World}{v:Value}:∀(S:List (Nat×PSlot))(t:Nat),pslotOf S a t v vs w→(S.map (·.1)).Nodup→(∀p∈S,p.1=t→p.2 v vs w)∧((∀p∈S,p.1≠t)→v=a.tmps.getD t undef)
 |[],t,h,_=>⟨by simp,fun _=>h⟩
 | (s,V)::S,t,h,hn=>by
   simp only [mCo,List.nodup_cons]at hn
   simp only [pslotOf]at h
   by_cases hst:s=t
   · subst hst
     rw [if_pos rfl]at h
     refine⟨fun p hp e=> ?_,fun hno=>absurd rfl (hno (s,V) (by simp))⟩
     rcases List.mem_cons.1 hp with rfl|hp
     · exact h
     · exact absurd (List.mem_map.2 ⟨p,hp,e⟩) hn.1
   · rw [if_neg hst]at h
     obtain⟨h1,h2⟩:=pslotOf_mem S t h hn.2
     refine⟨fun p hp e=> ?_,fun hno=>h2 (fun p hp=>hno p (by simp [hp]))⟩
     rcases List.mem_cons.1 hp with rfl|hp
     · exact absurd e hst
     · exact h1 p hp e
theorem pframe {ops:Array Oper}{A:Nat→PSlot}{o:Oper}{a0 a:Act}{vs:List (Option Value)}{w:World}{S:List (Nat×PSlot)}{R:Act→World→Prop}(hs:∀cs b,o.op≠ .select cs b)
   (hA:∀t,A t=pslotOf S a0 t) (hn:(S.map (·.1)).Nodup) (hl:∀p∈S,p.1<a0.tmps.size) (hst:pwithS vs (S.filter (plooked ops o)) R a0 w)
   (hlook:∀t∈o.looksAt ops,A t (a.tmps.getD t undef) vs w):∃a',R a' w∧Region.wanted o (yielded ops a'.tmps)=Region.wanted o (yielded ops a.tmps)∧execOp a'.eval o=execOp a.eval o∧a'.tmps.size=a0.tmps.size:=by
 have key:∀t∈o.looksAt ops,(∀p∈S,p.1=t→p.2 (a.tmps.getD t undef) vs w)∧((∀p∈S,p.1≠t)→a.tmps.getD t undef=a0.tmps.getD t undef):=
   fun t ht=>pslotOf_mem S t (by have:=hlook t ht;rwa [hA t]at this) hn
 obtain⟨a',h1,h2,h3⟩:=pwithS_out (S.filter (plooked ops o)) a0 (fun t=>a.tmps.getD t undef) hst
   (fun p hp=>by
     obtain⟨hp,hk⟩:=List.mem_filter.1 hp
     exact(key p.1 (by simpa [plooked]using hk)).1 p hp rfl)
   (fun p hp=>hl p (List.mem_filter.1 hp).1)
 have same:∀t∈o.looksAt ops,a'.tmps.getD t undef=a.tmps.getD t undef:=by
   intro t ht
   rw [h3 t]
   split
   · rfl
   · rename_i hno
     refine((key t ht).2 fun p hp e=>hno ?_).symm
     rw [List.any_eq_true]
     exact⟨p,List.mem_filter.2 ⟨hp,by unfold plooked;rw [e];simpa using ht⟩,by simpa using e⟩
 refine⟨a',h1, ?_, ?_,h2⟩
 · unfold Region.wanted
   cases hg:o.guard with
   |none=>rfl
   | some g=>
     obtain⟨j,b⟩:=g
     simp only
     rw [yielded_congr (x:=a'.tmps) (y:=a.tmps) fun d hd=>same d (by simp [Oper.looksAt,hg,hd])]
 · exact execOp_congr o hs fun x hx=>by
     cases x with
     |tmp t=>exact same t (by unfold Oper.looksAt;exact List.mem_append_left _ (List.mem_filterMap.2 ⟨.tmp t,by simpa using hx,rfl⟩))
     |const v=>rfl
     |global g=>rfl
     |func f=>rfl
theorem pwalkA_of_S {ops:Array Oper}{sp:List Nat}{sz:Nat}:∀(l:List Oper)(j:Nat)(a:Act)(S:List (Nat×PSlot))(A:Nat→PSlot)(F:List PSlot→Prop),(∀o∈l,∀cs b,o.op≠ .select cs b)→
   (∀t,A t=pslotOf S a t)→(S.map (·.1)).Nodup→(∀p∈S,p.1<sz)→a.tmps.size=sz→pwalkS P ops K sp sz j l a S F→pwalkA P ops K sp j l A F
 |[],_,_,_,_,_,_,_,_,_,_,h=>h
 | o :: l,j,a,S,A,F,hsel,hA,hn,hl,hsz,h=>by
   obtain⟨hd,h⟩:=h
   have hkeys:∀d,o.dst=some d→d<sz∧∀p∈S,p.1≠d:=by
     intro d e
     rw [e]at hd
     simp only [pdstOk,Bool.and_eq_true,decide_eq_true_eq,List.all_eq_true,bne_iff_ne,ne_eq]at hd
     exact⟨hd.1,fun p hp=>by simpa using hd.2 p hp⟩
   have look:∀(S:List (Nat×PSlot))(a' a:Act)(t:Nat),a'.tmps.getD t undef=a.tmps.getD t undef→pslotOf S a' t=pslotOf S a t:=by
     intro S a' a t e
     induction S with
     |nil=>simp only [pslotOf,e]
     |cons p S ih=>obtain⟨s,V⟩:=p;simp only [pslotOf,ih]
   have none_at:∀(S:List (Nat×PSlot))(a:Act)(t:Nat),(∀p∈S,p.1≠t)→pslotOf S a t=PIs (a.tmps.getD t undef):=by
     intro S a t hno
     induction S with
     |nil=>rfl
     | cons p S ih=>
       obtain⟨s,V⟩:=p
       simp only [pslotOf]
       rw [if_neg (hno (s,V) (by simp)),ih (fun q hq=>hno q (by simp [hq]))]
   have hord:∀V,(∀vs w,K.J vs w→pstepS P ops o a S vs w V)→PObO P ops K A o V:=by
     intro V h1 a1 vs w hJ hlook
     obtain⟨a',hr,hw,he,_⟩:=pframe (hsel o (by simp)) hA hn (by rw [hsz];exact hl) (h1 vs w hJ) hlook
     rw [hw,he]at hr
     split
     · rename_i hw';rw [if_pos hw']at hr;exact wp_of_gives hr
     · rename_i hw';rw [if_neg hw']at hr;exact hr
   have tails:∀(V:PSlot)(d:Nat),o.dst=some d→(∀t,pupdo A o.dst V t=pslotOf ((d,V)::S) a t)∧(((d,V)::S).map (·.1)).Nodup∧∀p∈(d,V)::S,p.1<sz:=by
     intro V d hdst
     refine⟨fun t=> ?_, ?_, ?_⟩
     · rw [hdst]
       simp only [pupdo,pupd,pslotOf]
       by_cases e:t=d
       · subst e;simp
       · rw [if_neg e,if_neg (fun h=>e h.symm),hA t]
     · simp only [mCo,List.nodup_cons]
       refine⟨fun hm=> ?_,hn⟩
       obtain⟨p,hp,e⟩:=List.mem_map.1 hm
       exact(hkeys d hdst).2 p hp e
     · intro p hp
       rcases List.mem_cons.1 hp with rfl|hp
       · exact(hkeys _ hdst).1
       · exact hl p hp
   rcases h with ⟨hc,c,h1,h2⟩|⟨hc,V,d,hst,hdst,h1,h2⟩|⟨i,hi,h1,h2⟩
   · refine⟨PIs c,pstable_is _ c, .inl ⟨hc,hord _ h1⟩, ?_⟩
     refine pwalkA_of_S l _ (a.put o.dst c) S _ _ (fun o' ho'=>hsel o' (by simp [ho'])) (fun t=> ?_) hn hl (by rw [put_size];exact hsz) h2
     cases hdst:o.dst with
     |none=>exact hA t
     | some d=>
       simp only [pupdo,pupd]
       split
       · rename_i e;subst e
         rw [none_at S _ _ (hkeys _ hdst).2,put_eq _ _ _ (by rw [hsz];exact(hkeys _ hdst).1)]
       · rename_i e
         rw [hA t,look S (a.put (some d) c) a t (put_ne _ _ _ _ (by simp only [ne_eq,Option.some.injEq];exact fun h=>e h.symm))]
   · obtain⟨e1,e2,e3⟩:=tails V d hdst
     exact⟨V,hst, .inl ⟨hc,hord _ h1⟩,pwalkA_of_S l _ a ((d,V)::S) _ _ (fun o' ho'=>hsel o' (by simp [ho'])) e1 e2 e3 hsz h2⟩
   · have hM:PObM P ops K sp A o i:=fun a1 vs w hJ hlen hback hlook=>by
       obtain⟨a',hr,hw,he,hs'⟩:=pframe (hsel o (by simp)) hA hn (by rw [hsz];exact hl) (h1 vs w hJ hlen hback) hlook
       have hg:=givesM_of_list (V:=fun v w'=>K.Sp vs i v w w') (fun d hdst=>by rw [hs',hsz];exact(hkeys d hdst).1) hr.1 hr.2
       rw [he]at hg
       exact⟨hw ▸ hr.1,wp_of_givesM hg⟩
     refine⟨PMk i,pstable_mk _ i, .inr ⟨i,hi,rfl,hM⟩, ?_⟩
     cases hdst:o.dst with
     | none=>
       rw [hdst]at h2
       exact pwalkA_of_S l _ a S _ _ (fun o' ho'=>hsel o' (by simp [ho'])) hA hn hl hsz h2
     | some d=>
       obtain⟨e1,e2,e3⟩:=tails (PMk i) d hdst
       rw [hdst]at h2 e1
       exact pwalkA_of_S l _ a ((d,PMk i)::S) _ _ (fun o' ho'=>hsel o' (by simp [ho'])) e1 e2 e3 hsz h2
theorem pwalk_is {ops:Array Oper}{sp:List Nat}{sz j:Nat}{o:Oper}{rest:List Oper}{a a':Act}{S:List (Nat×PSlot)}{F:List PSlot→Prop}{c:Value}(hd:pdstOk sz o.dst S=true)(hc:sp.contains j=false)(hS:S.filter (plooked ops o)=[])
   (hg:Region.wanted o (yielded ops a.tmps)=true) (h:∀vs w,K.J vs w→gives P w (Is c) ((execOp a.eval o).run P w)) (ha:a.put o.dst c=a')
   (hr:pwalkS P ops K sp sz (j+1) rest a' S (fun Vs=>F (PIs c::Vs))):pwalkS P ops K sp sz j (o::rest) a S F:=
 ⟨hd, .inl ⟨hc,c,fun vs w hw=>by unfold pstepS;rw [hS];simp only [pwithS,hg,if_true];exact h vs w hw,by rw [ha];exact hr⟩⟩
theorem pwalk_some {ops:Array Oper}{sp:List Nat}{sz j:Nat}{o:Oper}{rest:List Oper}{a:Act}{S:List (Nat×PSlot)}{F:List PSlot→Prop}(V:PSlot)(d:Nat)(hst:PStable K.Sp V)(hdst:o.dst=some d)(hd:pdstOk sz o.dst S=true)(hc:sp.contains j=false)
   (hS:S.filter (plooked ops o)=[]) (hg:Region.wanted o (yielded ops a.tmps)=true) (h:∀vs w,K.J vs w→gives P w (fun v w'=>V v vs w') ((execOp a.eval o).run P w))
   (hr:pwalkS P ops K sp sz (j+1) rest a ((d,V)::S) (fun Vs=>F (V::Vs))):pwalkS P ops K sp sz j (o::rest) a S F:=
 ⟨hd, .inr (.inl ⟨hc,V,d,hst,hdst,fun vs w hw=>by unfold pstepS;rw [hS];simp only [pwithS,hg,if_true];exact h vs w hw,hr⟩)⟩
theorem pwith_of {vs:List (Option Value)}{R1 R2:Act→World→Prop}(h:∀a w,R1 a w→R2 a w):∀(T:List (Nat×PSlot))(a:Act)(w:World),pwithS vs T R1 a w→pwithS vs T R2 a w
 |[],a,w,q=>h a w q
 |(_,_)::T,_,w,q=>fun x hx=>pwith_of h T _ w (q x hx)
theorem pwalk_from {ops:Array Oper}{sp:List Nat}{sz j:Nat}{o:Oper}{rest:List Oper}{a a':Act}{S T:List (Nat×PSlot)}{F:List PSlot→Prop}{c:Value}(hd:pdstOk sz o.dst S=true)(hc:sp.contains j=false)(hS:S.filter (plooked ops o)=T)
   (h:∀vs w,K.J vs w→pwithS vs T (fun a w=>Region.wanted o (yielded ops a.tmps)=true∧gives P w (Is c) ((execOp a.eval o).run P w)) a w) (ha:a.put o.dst c=a')
   (hr:pwalkS P ops K sp sz (j+1) rest a' S (fun Vs=>F (PIs c::Vs))):pwalkS P ops K sp sz j (o::rest) a S F:=by
 refine⟨hd, .inl ⟨hc,c,fun vs w hw=> ?_,by rw [ha];exact hr⟩⟩
 unfold pstepS
 rw [hS]
 exact pwith_of (fun a w q=>by rw [if_pos q.1];exact q.2) T a w (h vs w hw)
theorem pwalk_from_some {ops:Array Oper}{sp:List Nat}{sz j:Nat}{o:Oper}{rest:List Oper}{a:Act}{S T:List (Nat×PSlot)}{F:List PSlot→Prop}(V:PSlot)(d:Nat)(hst:PStable K.Sp V)(hdst:o.dst=some d)(hd:pdstOk sz o.dst S=true)(hc:sp.contains j=false)
   (hS:S.filter (plooked ops o)=T)
   (h:∀vs w,K.J vs w→pwithS vs T (fun a w=>Region.wanted o (yielded ops a.tmps)=true∧gives P w (fun v w'=>V v vs w') ((execOp a.eval o).run P w)) a w)
   (hr:pwalkS P ops K sp sz (j+1) rest a ((d,V)::S) (fun Vs=>F (V::Vs))):pwalkS P ops K sp sz j (o::rest) a S F:=by
 refine⟨hd, .inr (.inl ⟨hc,V,d,hst,hdst,fun vs w hw=> ?_,hr⟩)⟩
 unfold pstepS
 rw [hS]
 exact pwith_of (fun a w q=>by rw [if_pos q.1];exact q.2) T a w (h vs w hw)
theorem pwalk_mark {ops:Array Oper}{sp:List Nat}{sz j:Nat}{o:Oper}{rest:List Oper}{a:Act}{S T S':List (Nat×PSlot)}{F:List PSlot→Prop}(i:Nat)(D:List Nat)(hi:sp[i]? =some j)(hd:pdstOk sz o.dst S=true)
   (hS:S.filter (plooked ops o)=T) (hD:(D.all fun i'=>match sp[i']? with|some k'=>reach ops 8 o k'|none=>false)=true) (hS':putS o.dst (PMk i) S=S')
   (h:∀vs w,K.J vs w→vs[i]? =some none→(∀i'∈D,∃x,vs[i']? =some (some x))→pwithS vs T (fun a w=>Region.wanted o (yielded ops a.tmps)=true∧wpList P ops (fun e a' w'=>e= .normal∧a'.defers=a.defers∧saidM o.dst a' fun v=>K.Sp vs i v w w') [o] a w) a w)
   (hr:pwalkS P ops K sp sz (j+1) rest a S' (fun Vs=>F (PMk i::Vs))):pwalkS P ops K sp sz j (o::rest) a S F:=by
 refine⟨hd, .inr (.inr ⟨i,hi,fun vs w hw hl hb=> ?_,by rw [hS'];exact hr⟩)⟩
 unfold pstepM
 rw [hS]
 refine h vs w hw hl fun i' hi'=> ?_
 have:=(List.all_eq_true.1 hD) i' hi'
 cases hk:sp[i']? with
 |none=>rw [hk]at this;cases this
 |some k'=>rw [hk]at this;exact hb i' k' hk this
theorem pregion {id:Nat}{l:List Oper}{a0:Act}{w0:World}(n:Nat)(K:Marks)(sp:List Nat)(sz:Nat)(hm:P.follows .mixedOrders=true)
   (hB:(orderOk l.toArray (l.take n).length sz&&Region.noSelect l.toArray&&marksOk (l.take n).length sp)=true) (hsz:a0.tmps.size=sz) (hw:K.J (List.replicate sp.length none) w0.drew)
   (h:pwalkS P l.toArray K sp sz 0 (l.take n) a0 [] (fun Vs=>∀vs w',K.J vs w'→vs.length=sp.length→(∀i,i<sp.length→∃x,vs[i]? =some (some x))→pfin vs (wpList P l.toArray Q (l.drop n)) (((l.take n).map (·.dst)).zip Vs) a0 w')):
   (Code.region id l.toArray true).wp P Q a0 w0:=by
 have e:=List.take_append_drop n l
 simp only [Bool.and_eq_true]at hB
 subst hsz
 have:=pregion_walk (id:=id) (pre:=l.take n) (suf:=l.drop n) (a0:=a0) (w0:=w0) (Q:=Q) (P:=P) K sp hm (by rw [e];exact hB.1.1) hB.2 hw
   (by
     rw [e]
     refine pwalkA_of_S (l.take n) 0 a0 [] _ _ (fun o ho cs b=> ?_) (fun t=>rfl) (by simp) (by simp) rfl h
     obtain⟨i,hi,he⟩:=List.getElem_of_mem ho
     have hi2:=hi
     rw [List.length_take]at hi2
     exact Region.noSelect_spec hB.1.2 i o cs b (by rw [←he,List.getElem_take];simp))
 rwa [e]at this
end sound
def blkO(a c:Option Value)(T:TypeId)(z x:List Value):List Blk:=
 match a with
 |some (.pointer (some p))=>[⟨p.block,T,if c.isSome then x else z⟩]
 |_=>[]
structure TwoV (w0:World) (L:List Blk) (T:TypeId) (z x y:List Value) (a b c d:Option Value) (w:World):Prop where
 pa:∀v,a=some v→∃g,v= .pointer (some ⟨g,0,none⟩)
 pb:∀v,b=some v→∃g,v= .pointer (some ⟨g,0,none⟩)
 ca:a=none→c=none
 db:b=none→d=none
 own:Own w0 w (blkO a c T z x++(blkO b d T z y++L))
section
variable {w0 w w':World} {L:List Blk} {T:TypeId} {z x y:List Value} {a b c d:Option Value} {g:Nat} {u v:Value}
theorem TwoV.low(h:TwoV w0 L T z x y a b c d w):Own w0 w L:=h.own.dropN.dropN
theorem TwoV.ext(h:TwoV w0 L T z x y a b c d w)(hx:Ext w w'):TwoV w0 L T z x y a b c d w':=⟨h.pa,h.pb,h.ca,h.db,h.own.ext hx⟩
theorem TwoV.start(h:Own w0 w L):TwoV w0 L T z x y none none none none w:=⟨by simp,by simp,fun _=>rfl,fun _=>rfl,h⟩
theorem TwoV.oa(h:TwoV w0 L T z x y none b c d w):Own w0 w (blkO b d T z y++L):=h.own
theorem TwoV.ob(h:TwoV w0 L T z x y a none c d w):Own w0 w (blkO a c T z x++L):=h.own
theorem TwoV.na(h:TwoV w0 L T z x y none b c d w)(hm:Own w0 w' (⟨g,T,z⟩::(blkO b d T z y++L))):TwoV w0 L T z x y (some (.pointer (some ⟨g,0,none⟩))) b c d w':=by
 obtain rfl:=h.ca rfl
 exact⟨fun v e=>⟨g,(Option.some.inj e).symm⟩,h.pb,by simp,h.db,hm⟩
theorem TwoV.nb(h:TwoV w0 L T z x y a none c d w)(hm:Own w0 w' (⟨g,T,z⟩::(blkO a c T z x++L))):TwoV w0 L T z x y a (some (.pointer (some ⟨g,0,none⟩))) c d w':=by
 obtain rfl:=h.db rfl
 exact⟨h.pa,fun v e=>⟨g,(Option.some.inj e).symm⟩,h.ca,by simp,hm.perm List.perm_middle.symm⟩
theorem TwoV.sa(h:TwoV w0 L T z x y (some v) b none d w):∃g,v= .pointer (some ⟨g,0,none⟩)∧Own w0 w (⟨g,T,z⟩::(blkO b d T z y++L)):=by
 obtain⟨g,rfl⟩:=h.pa _ rfl
 exact⟨g,rfl,h.own⟩
theorem TwoV.sb(h:TwoV w0 L T z x y a (some v) c none w):∃g,v= .pointer (some ⟨g,0,none⟩)∧Own w0 w (⟨g,T,z⟩::(blkO a c T z x++L)):=by
 obtain⟨g,rfl⟩:=h.pb _ rfl
 exact⟨g,rfl,h.own.perm List.perm_middle⟩
theorem TwoV.wa(h:TwoV w0 L T z x y (some (.pointer (some ⟨g,0,none⟩))) b none d w)(hm:Own w0 w' (⟨g,T,x⟩::(blkO b d T z y++L))):TwoV w0 L T z x y (some (.pointer (some ⟨g,0,none⟩))) b (some u) d w':=
 ⟨h.pa,h.pb,(by simp),h.db,hm⟩
theorem TwoV.wb(h:TwoV w0 L T z x y a (some (.pointer (some ⟨g,0,none⟩))) c none w)(hm:Own w0 w' (⟨g,T,y⟩::(blkO a c T z x++L))):TwoV w0 L T z x y a (some (.pointer (some ⟨g,0,none⟩))) c (some u) w':=
 ⟨h.pa,h.pb,h.ca,(by simp),hm.perm List.perm_middle.symm⟩
theorem TwoV.fin {v' u':Value}(h:TwoV w0 L T z x y (some v) (some v') (some u) (some u') w):∃g g',v= .pointer (some ⟨g,0,none⟩)∧v'= .pointer (some ⟨g',0,none⟩)∧Own w0 w (⟨g,T,x⟩::⟨g',T,y⟩::L):=by
 obtain⟨g,rfl⟩:=h.pa _ rfl
 obtain⟨g',rfl⟩:=h.pb _ rfl
 exact⟨g,g',rfl,rfl,h.own⟩
end
def J4(X:Option Value→Option Value→Option Value→Option Value→World→Prop)(s:List (Option Value))(w:World):Prop:=∃a b c d,s=[a,b,c,d]∧X a b c d w
def K2(w0:World)(L:List Blk)(T:TypeId)(z x y:List Value):Marks:=
 Marks.of (J4 (TwoV w0 L T z x y)) fun _ _ _ ⟨a,b,c,d,e,h⟩ hx=>⟨a,b,c,d,e,h.ext hx⟩
theorem some4 {a b c d:Option Value}(h:∀i,i<4→∃x,([a,b,c,d]:List (Option Value))[i]? =some (some x)):∃p q r s,a=some p∧b=some q∧c=some r∧d=some s:=by
 obtain⟨p,hp⟩:=h 0 (by omega)
 obtain⟨q,hq⟩:=h 1 (by omega)
 obtain⟨r,hr⟩:=h 2 (by omega)
 obtain⟨s,hs⟩:=h 3 (by omega)
 simp at hp hq hr hs
 exact⟨p,q,r,s,hp,hq,hr,hs⟩
theorem mark_end {P:Program}{ops:Array Oper}{D:List Deferred}{d:Option Nat}{X:Value→World→Prop}{a:Act}{w:World}(hd:a.defers=D)(h:saidM d a fun v=>X v w):
   wpList P ops (fun e a' w'=>e= .normal∧a'.defers=D∧saidM d a' fun v=>X v w') [] a w:=⟨rfl,hd,h⟩
section
variable {w0 w w':World} {L:List Blk} {T:TypeId} {z x y:List Value} {a b c d:Option Value} {g:Nat} {u v:Value}
theorem TwoV.j0(h:TwoV w0 L T z x y none b c d w)(hm:Own w0 w' (⟨g,T,z⟩::(blkO b d T z y++L))):J4 (TwoV w0 L T z x y) (([none,b,c,d]:List (Option Value)).set 0 (some (.pointer (some ⟨g,0,none⟩)))) w':=⟨_,_,_,_,rfl,h.na hm⟩
theorem TwoV.j1(h:TwoV w0 L T z x y a none c d w)(hm:Own w0 w' (⟨g,T,z⟩::(blkO a c T z x++L))):J4 (TwoV w0 L T z x y) (([a,none,c,d]:List (Option Value)).set 1 (some (.pointer (some ⟨g,0,none⟩)))) w':=⟨_,_,_,_,rfl,h.nb hm⟩
theorem TwoV.j2(h:TwoV w0 L T z x y (some (.pointer (some ⟨g,0,none⟩))) b none d w)(hm:Own w0 w' (⟨g,T,x⟩::(blkO b d T z y++L))):J4 (TwoV w0 L T z x y) (([some (.pointer (some ⟨g,0,none⟩)),b,none,d]:List (Option Value)).set 2 (some u)) w':=⟨_,_,_,_,rfl,h.wa hm⟩
theorem TwoV.j3(h:TwoV w0 L T z x y a (some (.pointer (some ⟨g,0,none⟩))) c none w)(hm:Own w0 w' (⟨g,T,y⟩::(blkO a c T z x++L))):J4 (TwoV w0 L T z x y) (([a,some (.pointer (some ⟨g,0,none⟩)),c,none]:List (Option Value)).set 3 (some u)) w':=⟨_,_,_,_,rfl,h.wb hm⟩
end
theorem pmk0 {x p:Value}{l:List (Option Value)}{w:World}(h:PMk 0 x (some p::l) w):p=x:=by simpa [PMk]using h
theorem pmk1 {x p:Value}{q:Option Value}{l:List (Option Value)}{w:World}(h:PMk 1 x (q::some p::l) w):p=x:=by simpa [PMk]using h
def ptrAt(vs:List (Option Value))(g:Nat):Prop:=vs[0]? =some (some (.pointer (some ⟨g,0,none⟩)))∨vs[1]? =some (some (.pointer (some ⟨g,0,none⟩)))
def K2X(w0:World)(L:List Blk)(T:TypeId)(z x y:List Value):Marks where
 J:=J4 (TwoV w0 L T z x y)
 Sp vs i v w w':=J4 (TwoV w0 L T z x y) (vs.set i (some v)) w'∧(∀(k:Nat)(o:Obj),w.heap[k]? =some o→¬ptrAt vs k→w'.heap[k]? =some o)∧(i<2→∀g,v= .pointer (some ⟨g,0,none⟩)→w.heap.size≤g)
 jext:=fun _ _ _ ⟨a,b,c,d,e,h⟩ hx=>⟨a,b,c,d,e,h.ext hx⟩
 jmark:=fun _ _ _ _ _ _ _ h=>h.1
def KeysP(ks:List (List Byte)):PSlot:=fun v vs w=>∃g e,v= .slice (some ⟨g,0,none⟩) ks.length ks.length∧Row w g e (catV ks)∧¬ptrAt vs g
theorem KeysP.stable {w0:World}{L:List Blk}{T:TypeId}{z x y:List Value}(ks:List (List Byte)):PStable (K2X w0 L T z x y).Sp (KeysP ks) where
 ext:=fun _ _ _ _ ⟨g,e,h1,h2,h3⟩ hx=>⟨g,e,h1,row_ext h2 hx,h3⟩
 mark :=fun v vs i x w w' ⟨g,e,h1,h2,h3⟩ hn hS=>by
   refine⟨g,e,h1,hS.2.1 g _ h2 h3, ?_⟩
   have hlt:g<w.heap.size:=(Array.getElem?_eq_some_iff.1 h2).1
   have key:∀j,j<2→(vs.set i (some x))[j]? =some (some (.pointer (some ⟨g,0,none⟩)))→vs[j]? =some (some (.pointer (some ⟨g,0,none⟩))):=by
     intro j hj h
     by_cases e:i=j
     · subst e
       have hl:=(List.getElem?_eq_some_iff.1 hn).1
       rw [List.getElem?_set_self hl]at h
       have:=hS.2.2 hj g (by simpa using h)
       omega
     · rwa [List.getElem?_set_ne e]at h
   rintro (h|h)
   · exact h3 (.inl (key 0 (by omega) h))
   · exact h3 (.inr (key 1 (by omega) h))
section
variable {w0 w w':World} {L:List Blk} {T:TypeId} {z x y:List Value} {a b c d:Option Value} {g:Nat} {u v:Value}
theorem TwoV.old(h:TwoV w0 L T z x y a b c d w):∀g,ptrAt [a,b,c,d] g→g<w.heap.size:=by
 intro g hg
 have own:∀cs,Has (blkO a c T z x++(blkO b d T z y++L)) ⟨g,T,cs⟩→g<w.heap.size:=fun cs hh=>(Array.getElem?_eq_some_iff.1 (h.own.row hh)).1
 rcases hg with hg|hg
 · have:a=some (.pointer (some ⟨g,0,none⟩)):=by simpa using hg
   subst this
   exact own _ .hd
 · have:b=some (.pointer (some ⟨g,0,none⟩)):=by simpa using hg
   subst this
   exact own _ (Has.app .hd)
theorem TwoV.x0(h:TwoV w0 L T z x y none b c d w)(hm:Own w0 w' (⟨g,T,z⟩::(blkO b d T z y++L)))(hx:Ext w w')(hg:w.heap.size≤g):(K2X w0 L T z x y).Sp [none,b,c,d] 0 (.pointer (some ⟨g,0,none⟩)) w w':=
 ⟨h.j0 hm,fun _ _ hk _=>hx.block hk,fun _ g' e=>by cases e;exact hg⟩
theorem TwoV.x1(h:TwoV w0 L T z x y a none c d w)(hm:Own w0 w' (⟨g,T,z⟩::(blkO a c T z x++L)))(hx:Ext w w')(hg:w.heap.size≤g):(K2X w0 L T z x y).Sp [a,none,c,d] 1 (.pointer (some ⟨g,0,none⟩)) w w':=
 ⟨h.j1 hm,fun _ _ hk _=>hx.block hk,fun _ g' e=>by cases e;exact hg⟩
theorem TwoV.x2(h:TwoV w0 L T z x y (some (.pointer (some ⟨g,0,none⟩))) b none d w)(hm:Own w0 w' (⟨g,T,x⟩::(blkO b d T z y++L)))(hk:∀(k:Nat)(o:Obj),w.heap[k]? =some o→k≠g→w'.heap[k]? =some o):(K2X w0 L T z x y).Sp [some (.pointer (some ⟨g,0,none⟩)),b,none,d] 2 u w w':=
 ⟨h.j2 hm,fun k o ho hn=>hk k o ho fun e=>hn (.inl (by subst e;rfl)),fun h=>absurd h (by omega)⟩
theorem TwoV.x3(h:TwoV w0 L T z x y a (some (.pointer (some ⟨g,0,none⟩))) c none w)(hm:Own w0 w' (⟨g,T,y⟩::(blkO a c T z x++L)))(hk:∀(k:Nat)(o:Obj),w.heap[k]? =some o→k≠g→w'.heap[k]? =some o):(K2X w0 L T z x y).Sp [a,some (.pointer (some ⟨g,0,none⟩)),c,none] 3 u w w':=
 ⟨h.j3 hm,fun k o ho hn=>hk k o ho fun e=>hn (.inr (by subst e;rfl)),fun h=>absurd h (by omega)⟩
end
section
variable {P:Program} {ops:Array Oper} {Q:Exit→Act→World→Prop} {rest:List Oper} {dst:Option Tmp} {ty:TypeId} {pos:String} {aft:Array Edge} {gd:Option (Nat×Bool)} {a:Act} {w0 w:World} {L L':List Blk} {T t e:TypeId} {x y:Operand} {g n:Nat} {cs cs':List Value}
theorem wq_newX(hm:Own w0 w L)(hgd:Region.wanted (Oper.mk dst (.alloc T) ty pos aft gd) (yielded ops a.tmps)=true)(hT:ZeroOf P T cs)
   (hr:∀g w',Own w0 w' (⟨g,T,cs⟩::L)→Ext w w'→w.heap.size≤g→wpList P ops Q rest (a.put dst (.pointer (some ⟨g,0,none⟩))) w'):wpList P ops Q ((Oper.mk dst (.alloc T) ty pos aft gd)::rest) a w:=
 wpList_want hgd fun K hK=>by
   obtain⟨u,hu,hz⟩:=run_zero (P:=P) (T:=T) (cs:=cs) (w:=w)
   unfold Oper.wp execOp
   simp only [Instr.alloc,Sem.run_bind,hz,Result.andThen_ok,new_run,Sem.run_pure,hu]
   exact hK _ _ (hr _ _ (hm.alloc T cs) (Ext.alloc (Ext.refl w) _) (Nat.le_refl _))
theorem wq_stWX(hm:Own w0 w L)(hgd:Region.wanted (Oper.mk dst (.store T x y) ty pos aft gd) (yielded ops a.tmps)=true)(hT:Many P T n)(hx:a.eval x= .pointer (some ⟨g,0,none⟩))(hy:a.eval y= .agg cs'.toArray)(hs:Swap L ⟨g,t,cs⟩ ⟨g,t,cs'⟩ L')(hl:cs'.length=n)(hl2:cs.length=n)(h1:∀v∈cs',v.oneCell'=true)
   (hr:∀w',Own w0 w' L'→(∀(k:Nat)(o:Obj),w.heap[k]? =some o→k≠g→w'.heap[k]? =some o)→wpList P ops Q rest (a.put dst undef) w'):wpList P ops Q ((Oper.mk dst (.store T x y) ty pos aft gd)::rest) a w:=
 wpList_want hgd fun K hK=>by
   have hrow:=hm.row hs.has
   have hrun:=run_storeAt_row (P:=P) (T:=T) hrow (by rw [hl,hl2]) (by rw [hl];exact hT.size) h1
   unfold Oper.wp execOp
   simp only [hx,hy,Sem.run_bind,hrun,Result.andThen_ok]
   exact hK _ _ (hr _ (hm.turn hs) fun k o hk hne=>by rw [setRow_other];exact hk;exact hne)
theorem gqp_bs2 {z u v:List Value}{b c d f:Option Value}{u0 u1:Value}{x0 x1:Operand}{ks:List (List Byte)}(hT:TwoV w0 L t z u v b c d f w)(hb:(Instr.buildSlice T 2 #[(0,u0),(1,u1)]).run P w= .ok (.slice (some ⟨w.heap.size,0,none⟩) ks.length ks.length) (w.alloc (.cells (catV ks).toArray e)))(hx0:a.eval x0=u0)(hx1:a.eval x1=u1):
   gives P w (fun v w'=>KeysP ks v [b,c,d,f] w') ((execOp a.eval (Oper.mk dst (.buildSlice T 2 #[(0,x0),(1,x1)]) ty pos aft gd)).run P w):=by
 unfold execOp
 simp [hx0,hx1,hb]
 exact gives_val (V:=fun v w'=>KeysP ks v [b,c,d,f] w') (Ext.alloc (Ext.refl _) _) ⟨_,e,rfl,row_new w e (catV ks),fun h=>by have:=hT.old _ h;omega⟩
end
def SlAt(w0:World)(R:List Blk)(e:TypeId)(sz:Nat)(v:Value)(n:Nat)(cs:List Value)(w:World):Prop:=∃M,Own w0 w (M++R)∧SlO M e sz v n cs
section
variable {w0 w w':World} {R:List Blk} {e:TypeId} {sz n n0 n1 n2:Nat} {v v0:Value} {cs cs0 cs1 cs2:List Value}
theorem SlAt.ext(h:SlAt w0 R e sz v n cs w)(hx:Ext w w'):SlAt w0 R e sz v n cs w':=by
 obtain⟨M,h1,h2⟩:=h;exact⟨M,h1.ext hx,h2⟩
theorem SlAt.low(h:SlAt w0 R e sz v n cs w):Own w0 w R:=by obtain⟨M,h1,_⟩:=h;exact h1.dropN
end
def X1(w0:World)(R:List Blk)(e:TypeId)(sz:Nat)(v0:Value)(n0:Nat)(cs0:List Value)(n1:Nat)(cs1:List Value):Option Value→World→Prop
 |none,w=>SlAt w0 R e sz v0 n0 cs0 w
 |some v,w=>SlAt w0 R e sz v n1 cs1 w
def JA1(w0:World)(R:List Blk)(e:TypeId)(sz:Nat)(v0:Value)(n0:Nat)(cs0:List Value)(n1:Nat)(cs1:List Value):Marks:=
 Marks.of (fun s w=>∃a,s=[a]∧X1 w0 R e sz v0 n0 cs0 n1 cs1 a w) fun _ _ _ ⟨a,e,h⟩ hx=>⟨a,e,by cases a<;>exact SlAt.ext h hx⟩
def X2(w0:World)(R:List Blk)(e:TypeId)(sz:Nat)(v0:Value)(n0:Nat)(cs0:List Value)(n1:Nat)(cs1:List Value)(n2:Nat)(cs2:List Value):Option Value→Option Value→World→Prop
 |none,none,w=>SlAt w0 R e sz v0 n0 cs0 w
 |some v,none,w=>SlAt w0 R e sz v n1 cs1 w
 |some _,some v,w=>SlAt w0 R e sz v n2 cs2 w
 |none,some _,_=>False
def JA2(w0:World)(R:List Blk)(e:TypeId)(sz:Nat)(v0:Value)(n0:Nat)(cs0:List Value)(n1:Nat)(cs1:List Value)(n2:Nat)(cs2:List Value):Marks:=
 Marks.of (fun s w=>∃a b,s=[a,b]∧X2 w0 R e sz v0 n0 cs0 n1 cs1 n2 cs2 a b w) fun _ _ _ ⟨a,b,e,h⟩ hx=>⟨a,b,e,by cases a<;>cases b<;>first|exact SlAt.ext h hx|exact h⟩
section
variable {w0 w w':World} {R:List Blk} {e:TypeId} {sz n n0 n1 n2:Nat} {v v0:Value} {cs0 cs1 cs2:List Value} {a b:Option Value}
theorem X1.low(h:X1 w0 R e sz v0 n0 cs0 n1 cs1 a w):Own w0 w R:=by cases a<;>exact SlAt.low h
theorem X2.low(h:X2 w0 R e sz v0 n0 cs0 n1 cs1 n2 cs2 a b w):Own w0 w R:=by
 cases a<;>cases b<;>first|exact SlAt.low h|exact h.elim
theorem X1.j0 {M:List Blk}(hm:Own w0 w (M++R))(hs:SlO M e sz v n1 cs1):(JA1 w0 R e sz v0 n0 cs0 n1 cs1).J (([none]:List (Option Value)).set 0 (some v)) w:=⟨some v,rfl,M,hm,hs⟩
theorem X2.first(h:X2 w0 R e sz v0 n0 cs0 n1 cs1 n2 cs2 none b w):b=none∧SlAt w0 R e sz v0 n0 cs0 w:=by
 cases b
 · exact⟨rfl,h⟩
 · exact h.elim
theorem X2.j0 {M:List Blk}(hm:Own w0 w (M++R))(hs:SlO M e sz v n1 cs1):(JA2 w0 R e sz v0 n0 cs0 n1 cs1 n2 cs2).J (([none,none]:List (Option Value)).set 0 (some v)) w:=⟨some v,none,rfl,M,hm,hs⟩
theorem X2.j1 {M:List Blk}{u:Value}(hm:Own w0 w (M++R))(hs:SlO M e sz v n2 cs2):(JA2 w0 R e sz v0 n0 cs0 n1 cs1 n2 cs2).J (([some u,none]:List (Option Value)).set 1 (some v)) w:=⟨some u,some v,rfl,M,hm,hs⟩
end
theorem some1 {a:Option Value}(h:∀i,i<1→∃x,([a]:List (Option Value))[i]? =some (some x)):∃p,a=some p:=by
 obtain⟨p,hp⟩:=h 0 (by omega)
 simp at hp
 exact⟨p,hp⟩
theorem some2 {a b:Option Value}(h:∀i,i<2→∃x,([a,b]:List (Option Value))[i]? =some (some x)):∃p q,a=some p∧b=some q:=by
 obtain⟨p,hp⟩:=h 0 (by omega)
 obtain⟨q,hq⟩:=h 1 (by omega)
 simp at hp hq
 exact⟨p,q,hp,hq⟩
end Go.Proofs.YtneacgpmjlocjaaGreatDoor
