/- Texts. -/
import Derived.Test.YtinphfpdfodkkaaGreatDoorS00
import Derived.Deep.QuietTactic
import Derived.BigQuiet
import Derived.Below
import Derived.StillTail
import Derived.Deep.Quiet
import Derived.OrdersHeld
import Derived.OrdersIn
import Derived.RangeFuncCalls
import Derived.RangeFuncIn
set_option linter.unusedVariables false
set_option linter.unusedSimpArgs false
set_option maxHeartbeats 8000000
set_option maxRecDepth 100000
namespace Go.Proofs.YtinphfpdfodkkaaGreatDoor
section
open Go.RowKit
structure Later(B:Nat)(w0:World) where
 w:World
 h:Below B w0 w
instance laterNonempty (B:Nat) (w0:World):Nonempty (Later B w0):=⟨⟨w0,br_⟩⟩
theorem Later.cell{w0:World}{g o:Nat}{v:Value}(h:w0.cell? ⟨g,o,none⟩=some v)(hp:g<w0.heap.size)(d:Later w0.heap.size w0):d.w.cell? ⟨g,o,none⟩=some v:=(d.h.cell (p:=⟨g,o,none⟩) hp).trans h
theorem af_{P:Program}{id:Nat}{Q:Exit->Act->World->Prop}{a:Act}{w:World}{l:List Oper}(hm:P.follows .mixedOrders=true)(hB:Region.lexB .any l.toArray=true)
  (h:wpQuiet P l.toArray (fun w'=>∃d:Later w.heap.size w,w'=d.w) (fun a'=>∀w',(∃d:Later w.heap.size w,w'=d.w)->Q .normal a' w') l a):(Code.region id l.toArray true).wp P Q a w:=
 wp_region_quiet (C:=fun w'=>∃d:Later w.heap.size w,w'=d.w) hm hB ⟨⟨{ w with drawn:=w.drawn+1 },⟨rfl,rfl,rfl,nl_,fun _ _=>rfl⟩⟩,rfl⟩ (by simpa using h)
theorem Calls.later{P:Program}{f:FuncId}{args:Array Value}{w0:World}{d:Later w0.heap.size w0}{v:Value}
  (h:Calls P f args d.w fun e w'=>e=.returned v/\Below d.w.heap.size d.w w'):Calls P f args d.w fun e w''=>e=.returned v/\∃d':Later w0.heap.size w0,w''=d'.w:=
 h.mono fun _ _ h=>⟨h.1,⟨_,d.h.trans (h.2.mono d.h.size)⟩,rfl⟩
theorem Calls.later_same{P:Program}{f:FuncId}{args:Array Value}{w0:World}{d:Later w0.heap.size w0}{v:Value}
  (h:Calls P f args d.w fun e w'=>e=.returned v/\d.w=w'):Calls P f args d.w fun e w''=>e=.returned v/\∃d':Later w0.heap.size w0,w''=d'.w:=
 h.mono fun _ _ h=>⟨h.1,d,h.2.symm⟩
theorem lc_{w0:World}{g o:Nat}{v:Value}(h:w0.cell? ⟨g,o,none⟩=some v)(hp:g<w0.heap.size):∀d:Later w0.heap.size w0,d.w.cell? ⟨g,o,none⟩=some v:=fun e=>Later.cell h hp e
theorem wq_{P:Program}{ops:Array Oper}{C:World->Prop}{B:Nat}{w0:World}{Q:Act->World->Prop}{a:Act}(h:∀d:Later B w0,Q a d.w):wpQuiet P ops C (fun a'=>∀w',(∃d:Later B w0,w'=d.w)->Q a' w') [] a:=wpQuiet_nil (fun w' h'=>by obtain⟨d,e⟩:=h';subst e;exact h d)
end
section
open Go.RowKit
section
variable {P:Program} {md:Region.Mode} {ops:Array Oper} {C:World->Prop}
def ik_(P:Program)(md:Region.Mode)(ops:Array Oper)(C:World->Prop)(n:Nat)(L:Array Bool->Act->Prop):Nat->Array Bool->Act->Prop
 |0,s,a=>L s a
 |f+1,s,a=>Region.ready md ops s≠[]/\∀i∈Region.ready md ops s,i<n/\qOp P ops C i (ik_ P md ops C n L f (s.setIfInBounds i true)) a
theorem ij_{n g:Nat}{L:Array Bool->Act->Prop}{R:Exit->Act->World->Prop}(hL:∀s a w,C w->L s a->wpAny P md ops R g s a w)(f:Nat) :
  ∀(s:Array Bool) (a:Act) (w:World),C w->ik_ P md ops C n L f s a->wpAny P md ops R (f+g) s a w:=by
 induction f with
 |zero=>intro s a w hw h;rw[Nat.zero_add];exact hL s a w hw h
 |succ f ih=>
  intro s a w hw h;have e:f+1+g=(f+g)+1:=by omega
  rw[e];exact⟨fun h0=>absurd h0 h.1,fun i hi=>wpOp_of_qOp hw (fun a' w' hw' h'=>ih _ a' w' hw' h') (h.2 i hi).2⟩
theorem jm_{n i:Nat}{oi:Oper}{v:Value}{L:Array Bool->Act->Prop}(hi:ops[i]?=some oi)(hsel:∀(j:Nat) (o:Oper) cs b,ops[j]?=some o->o.op≠.select cs b)
  (hs:Region.sinkB md ops n=true) (hc:Region.chainB md ops n=true) (hn:n<ops.size) (hin:i<n) (hdone:∀s a,L s a->∀j∈Region.ready md ops s,n<=j) (f:Nat) :
  ∀(s:Array Bool) (a:Act),HeadInv md ops n s →
   (∀j oj,ops[j]?=some oj->j≠i->s.getD j true=false->(∀e∈oj.after,Region.binds md e=true->e.on≠i)->oi.apart ops oj=true) →
   i∈Region.ready md ops s->YieldsIn P ops C oi v a->ik_ P md ops C n L f (s.setIfInBounds i true) (a.put oi.dst v)->ik_ P md ops C n L (f+1) s a:=by
 have low:∀s,HeadInv md ops n s->i∈Region.ready md ops s->∀j∈Region.ready md ops s,j<n:=by
  intro s inv hr j hj
  by_cases h:j<n
  ·exact h
  exact absurd hj (tail_waits hs hc hn inv _ i rfl hin (mem_ready.1 hr).1 j (by omega))
 induction f with
 |zero=>
  intro s a inv _ hr hy H;refine⟨List.ne_nil_of_mem hr,fun j hj=>⟨low s inv hr j hj,?_⟩⟩
  by_cases hji:j=i
  ·rw[hji];exact hy.qOp hi H
  have h1:=hdone _ _ H j (ready_mono hj hji);have h2:=low s inv hr j hj;omega
 |succ f ih=>
  intro s a inv hfree hr hy H;refine⟨List.ne_nil_of_mem hr,fun j hj=>⟨low s inv hr j hj,?_⟩⟩
  by_cases hji:j=i
  ·rw[hji];exact hy.qOp hi H
  have h1:=(H.2 j (ready_mono hj hji)).2;obtain⟨hjun,oj,hoj,hall⟩:=mem_ready.1 hj;have hnot:∀e∈oj.after,Region.binds md e=true->e.on≠i:=by
   intro e he hb heq;have h2:=hall e he hb;rw[heq,getD_both (mem_ready.1 hr).1]at h2
   cases h2
  have h2:=qOp_put hoj (hfree j oj hoj hji hjun hnot) (fun cs b=>hsel i oi cs b hi) (fun cs b=>hsel j oj cs b hoj) hy h1;refine qOp_mono (fun a' h3=>ih _ a' (inv.set hj (low s inv hr j hj)) ?_ (ready_mono hr (Ne.symm hji)) h3.1 ?_) h2
  ·intro k ok hk hki hun hno
   refine hfree k ok hk hki ?_ hno
   by_cases hjk:j=k
   ·rw[<-hjk];exact hjun
   rw[getD_set_ne true hjk]at hun;exact hun
  rw[Array.setIfInBounds_comm _ _ hji];exact h3.2
theorem mD_{n g:Nat}{R:Act->Prop}(hsel:Region.noSelect ops=true)(hs:Region.sinkB md ops n=true)(hc:Region.chainB md ops n=true)(hn:n<ops.size)(l:List Oper) :
  ∀(k:Nat) (s:Array Bool) (a:Act),(∀j,j<l.length->l[j]?=ops[k+j]?)->k+l.length=n->HeadInv md ops n s →
  Region.lexHead md ops g l.length k s=true->wpQuiet P ops C R l a->ik_ P md ops C n (fun s' a'=>Region.seqB md ops g n s'=true/\R a') l.length s a:=by
 induction l with
 |nil=>
  intro k s a _ hk _ hB h;have e:k=n:=by simpa using hk
  rw[e]at hB;exact⟨by simpa[Region.lexHead]using hB,h⟩
 |cons o l ih=>
  intro k s a hl hk inv hB h;have h0:ops[k]?=some o:=by simpa using(hl 0 (by simp)).symm
  simp only[List.length_cons,Region.lexHead,Bool.and_eq_true]at hB;have hkn:k<n:=by rw[List.length_cons]at hk;omega
  have hr:k∈Region.ready md ops s:=by simpa using hB.1.1
  obtain⟨v,hy,hK⟩:=yieldsIn_of_qOp (C:=C) (K:=wpQuiet P ops C R l) h0 (by unfold qOp;simp only[h0];exact h);refine jm_ h0 (Region.noSelect_spec hsel) hs hc hn hkn (fun s' a' hL=>seqB_ready hL.1) l.length s a inv (Region.free_spec h0 hB.1.2) hr hy ?_;refine ih (k+1) _ _ (fun j hj=>?_) (by rw[List.length_cons]at hk;omega) (inv.set hr hkn) hB.2 hK;have:=hl (j+1) (by rw[List.length_cons];omega);simpa[Nat.add_assoc,Nat.add_comm 1 j]using this
theorem gw_{id:Nat}{Q:Exit->Act->World->Prop}{a:Act}{w:World}{l:List Oper}(n:Nat)(hm:P.follows .mixedOrders=true)(hB:Region.lexTailB .any l.toArray n=true)(hC:C { w with drawn:=w.drawn+1 })
  (h:wpQuiet P l.toArray C (fun a'=>∀w',C w'->wpList P l.toArray Q (l.drop n) a' w') (l.take n) a):(Code.region id l.toArray true).wp P Q a w:=by
 simp only[Region.lexTailB,Bool.and_eq_true,decide_eq_true_eq]at hB;obtain⟨⟨⟨⟨hsel,hn⟩,hs⟩,hc⟩,hlex⟩:=hB;have hn':n<l.length:=by simpa using hn
 have htl:(l.take n).length=n:=by rw[List.length_take];omega
 have hdl:(l.drop n).length=l.toArray.size-n:=by simp
 have inv0:HeadInv .any l.toArray n (Array.replicate l.toArray.size false):=
  ⟨by simp,fun j oj _ hl=>(by rw[getD_replicate_false]at hl;cases hl),fun t _ ht=>getD_in (by simpa using ht) (getD_replicate_false _ _)⟩
 have H:=mD_ (md:=.any) (C:=C) (g:=l.toArray.size-n) hsel hs hc hn (l.take n) 0 _ a (fun j hj=>by
  rw[htl]at hj;simp[hj]) (by simpa using htl) inv0 (by rw[htl];exact hlex) h
 have H2:=ij_ (R:=Q) (g:=l.toArray.size-n) (fun s a' w' hw' hL=>by
  have h3:=wpAny_of_seq (md:=.any) (Q':=Q) (l.drop n) n s a' w' (fun j=>by simp[List.getElem?_drop]) (by rw[hdl];exact hL.1) (hL.2 w' hw')
  rwa [hdl]at h3) _ _ _ _ hC H
 refine wp_region_any hm ?_;rw[htl,show n+(l.toArray.size-n)=l.toArray.size by omega]at H2;exact H2
end
theorem aS_{P:Program}{id:Nat}{Q:Exit->Act->World->Prop}{a:Act}{w:World}{l:List Oper}(n:Nat)(hm:P.follows .mixedOrders=true)(hB:Region.lexTailB .any l.toArray n=true)
  (h:wpQuiet P l.toArray (fun w'=>∃d:Later w.heap.size w,w'=d.w) (fun a'=>∀w',(∃d:Later w.heap.size w,w'=d.w)->wpList P l.toArray Q (l.drop n) a' w') (l.take n) a):(Code.region id l.toArray true).wp P Q a w:=
 gw_ (C:=fun w'=>∃d:Later w.heap.size w,w'=d.w) n hm hB ⟨⟨{ w with drawn:=w.drawn+1 },⟨rfl,rfl,rfl,nl_,fun _ _=>rfl⟩⟩,rfl⟩ h
end
section
open Go.RowKit
section
variable {P:Program} {md:Region.Mode} {ops:Array Oper} {C C':World->Prop}
def fanB(md:Region.Mode)(ops:Array Oper)(n:Nat):Bool:=
 (List.range ops.size).all fun t=>decide (t<=n) || (List.range t).any fun j=>decide (n<=j) && Region.waitsFor md ops t j
def fZ_(md:Region.Mode)(ops:Array Oper)(g n:Nat):Nat->Nat->Array Bool->Bool
 |0,k,listed=>decide (Region.ready md ops listed=[n]) && Region.lexFrom md ops g (n+1) (listed.setIfInBounds n true)
 |f+1,k,listed=>(Region.ready md ops listed).contains k && Region.free md ops listed k && fZ_ md ops g n f (k+1) (listed.setIfInBounds k true)
def mn_(md:Region.Mode)(ops:Array Oper)(n:Nat):Bool:=
 Region.noSelect ops && decide (n<ops.size) && Region.sinkB md ops n && fanB md ops n && fZ_ md ops (ops.size-n-1) n n 0 (Array.replicate ops.size false)
theorem ip_{n:Nat}{listed:Array Bool}(hs:Region.sinkB md ops n=true)(hc:fanB md ops n=true)(hn:n<ops.size)(inv:HeadInv md ops n listed) :
  ∀(d i:Nat),n-i=d->i<n->listed.getD i true=false->∀t,n<=t->t∉Region.ready md ops listed:=by
 intro d
 induction d using Nat.strongRecOn with
 |_ d ih=>
  intro i hd hi hun t ht hr;obtain⟨_,ot,hot,hall⟩:=mem_ready.1 hr;have htlt:t<ops.size:=(Array.getElem?_eq_some_iff.1 hot).1
  by_cases htn:t=n
  ·subst htn
   have h1:=List.all_eq_true.1 hs i (List.mem_range.2 hi);obtain⟨j,hj,hj2⟩:=List.any_eq_true.1 h1;simp only[Bool.and_eq_true,decide_eq_true_eq]at hj2;obtain⟨oj,hoj,e,he,hb,hon⟩:=Region.waitsFor_spec hj2.2;have hjle:j<=t:=by have:=List.mem_range.1 hj;omega
   by_cases hjt:j=t
   ·subst hjt
    have:oj=ot:=Option.some.inj (hoj.symm.trans hot);subst this;have h2:=hall e he hb;rw[hon,getD_both hun]at h2
    cases h2
   cases hl:listed.getD j false with
   |true=>
    have h2:=inv.closed j oj hoj hl e he hb;rw[hon,getD_both hun]at h2
    cases h2
   |false=>
    have hjs:j<listed.size:=by rw[inv.size];omega
    exact ih (t-j) (by omega) j rfl (by omega) (getD_in hjs hl) t (nl_) hr
  have h1:=List.all_eq_true.1 hc t (List.mem_range.2 htlt);simp only[Bool.or_eq_true,decide_eq_true_eq]at h1
  rcases h1 with h1|h1
  ·omega
  obtain⟨j,hj,hj2⟩:=List.any_eq_true.1 h1;simp only[Bool.and_eq_true,decide_eq_true_eq]at hj2;have hjt:=List.mem_range.1 hj;obtain⟨o',ho',e,he,hb,hon⟩:=Region.waitsFor_spec hj2.2;have:o'=ot:=Option.some.inj (ho'.symm.trans hot);subst this;have h2:=hall e he hb;rw[hon,getD_both (inv.tail j (by omega) (by omega))]at h2
  cases h2
theorem jn_{n i:Nat}{oi:Oper}{v:Value}{L:Array Bool->Act->Prop}(hi:ops[i]?=some oi)(hsel:∀(j:Nat) (o:Oper) cs b,ops[j]?=some o->o.op≠.select cs b)
  (hs:Region.sinkB md ops n=true) (hc:fanB md ops n=true) (hn:n<ops.size) (hin:i<n) (hdone:∀s a,L s a->∀j∈Region.ready md ops s,n<=j) (f:Nat) :
  ∀(s:Array Bool) (a:Act),HeadInv md ops n s →
   (∀j oj,ops[j]?=some oj->j≠i->s.getD j true=false->(∀e∈oj.after,Region.binds md e=true->e.on≠i)->oi.apart ops oj=true) →
   i∈Region.ready md ops s->YieldsIn P ops C oi v a->ik_ P md ops C n L f (s.setIfInBounds i true) (a.put oi.dst v)->ik_ P md ops C n L (f+1) s a:=by
 have low:∀s,HeadInv md ops n s->i∈Region.ready md ops s->∀j∈Region.ready md ops s,j<n:=by
  intro s inv hr j hj
  by_cases h:j<n
  ·exact h
  exact absurd hj (ip_ hs hc hn inv _ i rfl hin (mem_ready.1 hr).1 j (by omega))
 induction f with
 |zero=>
  intro s a inv _ hr hy H;refine⟨List.ne_nil_of_mem hr,fun j hj=>⟨low s inv hr j hj,?_⟩⟩
  by_cases hji:j=i
  ·rw[hji];exact hy.qOp hi H
  have h1:=hdone _ _ H j (ready_mono hj hji);have h2:=low s inv hr j hj;omega
 |succ f ih=>
  intro s a inv hfree hr hy H;refine⟨List.ne_nil_of_mem hr,fun j hj=>⟨low s inv hr j hj,?_⟩⟩
  by_cases hji:j=i
  ·rw[hji];exact hy.qOp hi H
  have h1:=(H.2 j (ready_mono hj hji)).2;obtain⟨hjun,oj,hoj,hall⟩:=mem_ready.1 hj;have hnot:∀e∈oj.after,Region.binds md e=true->e.on≠i:=by
   intro e he hb heq;have h2:=hall e he hb;rw[heq,getD_both (mem_ready.1 hr).1]at h2
   cases h2
  have h2:=qOp_put hoj (hfree j oj hoj hji hjun hnot) (fun cs b=>hsel i oi cs b hi) (fun cs b=>hsel j oj cs b hoj) hy h1;refine qOp_mono (fun a' h3=>ih _ a' (inv.set hj (low s inv hr j hj)) ?_ (ready_mono hr (Ne.symm hji)) h3.1 ?_) h2
  ·intro k ok hk hki hun hno
   refine hfree k ok hk hki ?_ hno
   by_cases hjk:j=k
   ·rw[<-hjk];exact hjun
   rw[getD_set_ne true hjk]at hun;exact hun
  rw[Array.setIfInBounds_comm _ _ hji];exact h3.2
theorem mF_{n g:Nat}{R:Act->Prop}(hsel:Region.noSelect ops=true)(hs:Region.sinkB md ops n=true)(hc:fanB md ops n=true)(hn:n<ops.size)(l:List Oper) :
  ∀(k:Nat) (s:Array Bool) (a:Act),(∀j,j<l.length->l[j]?=ops[k+j]?)->k+l.length=n->HeadInv md ops n s →
  fZ_ md ops g n l.length k s=true->wpQuiet P ops C R l a->ik_ P md ops C n (fun s' a'=>(Region.ready md ops s'=[n]/\Region.lexFrom md ops g (n+1) (s'.setIfInBounds n true)=true)/\R a') l.length s a:=by
 induction l with
 |nil=>
  intro k s a _ hk _ hB h;refine⟨?_,h⟩;simpa[fZ_]using hB
 |cons o l ih=>
  intro k s a hl hk inv hB h;have h0:ops[k]?=some o:=by simpa using(hl 0 (by simp)).symm
  simp only[List.length_cons,fZ_,Bool.and_eq_true]at hB;have hkn:k<n:=by rw[List.length_cons]at hk;omega
  have hr:k∈Region.ready md ops s:=by simpa using hB.1.1
  obtain⟨v,hy,hK⟩:=yieldsIn_of_qOp (C:=C) (K:=wpQuiet P ops C R l) h0 (by unfold qOp;simp only[h0];exact h);refine jn_ h0 (Region.noSelect_spec hsel) hs hc hn hkn (fun s' a' hL j hj=>by rw[hL.1.1]at hj;have:=List.mem_singleton.1 hj;omega) l.length s a inv (Region.free_spec h0 hB.1.2) hr hy ?_;refine ih (k+1) _ _ (fun j hj=>?_) (by rw[List.length_cons]at hk;omega) (inv.set hr hkn) hB.2 hK;have:=hl (j+1) (by rw[List.length_cons];omega);simpa[Nat.add_assoc,Nat.add_comm 1 j]using this
def midQ(P:Program)(ops:Array Oper)(Q:Exit->Act->World->Prop)(rest:List Oper):Exit->Act->World->Prop
 |.normal,a,w=>wpQuiet P ops (fun w'=>∃d:Later w.heap.size w,w'=d.w) (fun a'=>∀w',(∃d:Later w.heap.size w,w'=d.w)->Q .normal a' w') rest a
 |e,a,w=>Q e a w
theorem as_{P:Program}{ops:Array Oper}{Q:Exit->Act->World->Prop}{rest:List Oper}{a:Act}{w:World}
  (h:wpQuiet P ops (fun w'=>∃d:Later w.heap.size w,w'=d.w) (fun a'=>∀w',(∃d:Later w.heap.size w,w'=d.w)->Q .normal a' w') rest a):midQ P ops Q rest .normal a w:=h
theorem ao_{id:Nat}{Q:Exit->Act->World->Prop}{a:Act}{w:World}{l:List Oper}(n:Nat)(o:Oper)(rest:List Oper)(hm:P.follows .mixedOrders=true)(hB:mn_ .any l.toArray n=true)(hl:l.drop n=o :: rest)
  (h:wpQuiet P l.toArray (fun w'=>∃d:Later w.heap.size w,w'=d.w) (fun a'=>∀w',(∃d:Later w.heap.size w,w'=d.w) →
   ∀K:Act->World->Prop,(∀a2 w2,midQ P l.toArray Q rest .normal a2 w2->K a2 w2)->if Region.wanted o (yielded l.toArray a'.tmps)then o.wp P a' w' K Q else K (a'.put o.dst undef) w') (l.take n) a):(Code.region id l.toArray true).wp P Q a w:=by
 simp only[mn_,Bool.and_eq_true,decide_eq_true_eq]at hB;obtain⟨⟨⟨⟨hsel,hn⟩,hs⟩,hc⟩,hlex⟩:=hB;have hn':n<l.length:=by simpa using hn
 have htl:(l.take n).length=n:=by rw[List.length_take];omega
 have hrl:rest.length=l.toArray.size-n-1:=by
  have h1:=congrArg List.length hl;simp at h1;simp;omega
 have ho:l.toArray[n]?=some o:=by
  have h1:(l.drop n)[0]?=some o:=by rw[hl];rfl
  rw[List.getElem?_drop]at h1;simpa using h1
 have hrest:∀j,rest[j]?=l.toArray[n+1+j]?:=fun j=>by
  have h1:(l.drop n)[j+1]?=rest[j]?:=by rw[hl];rfl
  rw[List.getElem?_drop]at h1;rw[<-h1];simp[Nat.add_assoc,Nat.add_comm 1 j]
 have inv0:HeadInv .any l.toArray n (Array.replicate l.toArray.size false):=
  ⟨by simp,fun j oj _ hl=>(by rw[getD_replicate_false]at hl;cases hl),fun t _ ht=>getD_in (by simpa using ht) (getD_replicate_false _ _)⟩
 have H:=mF_ (md:=.any) (C:=fun w'=>∃d:Later w.heap.size w,w'=d.w) (g:=l.toArray.size-n-1) hsel hs hc hn (l.take n) 0 _ a (fun j hj=>by
  rw[htl]at hj;simp[hj]) (by simpa using htl) inv0 (by rw[htl];exact hlex) h
 have H2:=ij_ (R:=Q) (g:=l.toArray.size-n) (fun s a' w' hw' hL=>by
  obtain⟨⟨hr,hlx⟩,hR⟩:=hL;rw[show l.toArray.size-n=(l.toArray.size-n-1)+1 by omega];refine⟨fun h0=>(by rw[hr]at h0;cases h0),fun i hi=>?_⟩;rw[hr]at hi;have hin:=List.mem_singleton.1 hi;subst hin;have h3:=hR w' hw' (wpAny P .any l.toArray Q (l.toArray.size-i-1) (s.setIfInBounds i true)) (fun a2 w2 hq=>by
   have h4:=wpAnyQ_lex (P:=P) (C:=fun w'=>∃d:Later w2.heap.size w2,w'=d.w) (md:=.any) hsel rest (i+1) (s.setIfInBounds i true) a2 hrest (by rw[hrl];exact hlx) hq;rw[hrl]at h4;exact wpAny_of_quiet (Q:=fun a'=>∀w',(∃d:Later w2.heap.size w2,w'=d.w)->Q .normal a' w') (fun _ w' hw' h=>h w' hw') _ _ _ _ ⟨⟨w2,br_⟩,rfl⟩ h4)
  unfold wpOp;simp only[ho]
  split
  ·rename_i hw
   rw[if_pos hw]at h3;exact Or.inl h3
  rename_i hw
  rw[if_neg hw]at h3;exact h3) _ _ _ _ ⟨⟨{ w with drawn:=w.drawn+1 },⟨rfl,rfl,rfl,nl_,fun _ _=>rfl⟩⟩,rfl⟩ H
 refine wp_region_any hm ?_;rw[htl,show n+(l.toArray.size-n)=l.toArray.size by omega]at H2;exact H2
variable {P:Program} {md:Region.Mode} {ops:Array Oper} {S:World->Prop} {Q:Exit->Act->World->Prop}
def mC_(P:Program)(md:Region.Mode)(ops:Array Oper)(Q:Exit->Act->World->Prop)(S:World->Prop)(n:Nat)(L:Array Bool->Act->World->Prop):Nat->Array Bool->Act->World->Prop
 |0,s,a,w=>L s a w
 |f+1,s,a,w=>Region.ready md ops s≠[]/\∀i∈Region.ready md ops s,i<n/\wpOp P ops Q i (fun a' w'=>S w'/\mC_ P md ops Q S n L f (s.setIfInBounds i true) a' w') a w
theorem ii_{n g:Nat}{L:Array Bool->Act->World->Prop}(hL:∀s a w,L s a w->wpAny P md ops Q g s a w)(f:Nat) :
  ∀(s:Array Bool) (a:Act) (w:World),mC_ P md ops Q S n L f s a w->wpAny P md ops Q (f+g) s a w:=by
 induction f with
 |zero=>intro s a w h;rw[Nat.zero_add];exact hL s a w h
 |succ f ih=>
  intro s a w h;have e:f+1+g=(f+g)+1:=by omega
  rw[e];exact⟨fun h0=>absurd h0 h.1,fun i hi=>wpOp_mono (fun a' w' h'=>ih _ a' w' h'.2) (h.2 i hi).2⟩
theorem jl_{n i:Nat}{oi:Oper}{v:Value}{L:Array Bool->Act->World->Prop}(hi:ops[i]?=some oi)(hsel:∀(j:Nat) (o:Oper) cs b,ops[j]?=some o->o.op≠.select cs b)
  (hQ:∀c a w,Q (.panic c) (a.put oi.dst v) w->Q (.panic c) a w)
  (hs:Region.sinkB md ops n=true) (hc:fanB md ops n=true) (hn:n<ops.size) (hin:i<n) (hdone:∀s a w,L s a w->∀j∈Region.ready md ops s,n<=j) (f:Nat) :
  ∀(s:Array Bool) (a:Act) (w:World),HeadInv md ops n s →
   (∀j oj,ops[j]?=some oj->j≠i->s.getD j true=false->(∀e∈oj.after,Region.binds md e=true->e.on≠i)->oi.apart ops oj=true) →
   i∈Region.ready md ops s->YieldsIf P ops S oi v a->S w->mC_ P md ops Q S n L f (s.setIfInBounds i true) (a.put oi.dst v) w->mC_ P md ops Q S n L (f+1) s a w:=by
 have low:∀s,HeadInv md ops n s->i∈Region.ready md ops s->∀j∈Region.ready md ops s,j<n:=by
  intro s inv hr j hj
  by_cases h:j<n
  ·exact h
  exact absurd hj (ip_ hs hc hn inv _ i rfl hin (mem_ready.1 hr).1 j (by omega))
 induction f with
 |zero=>
  intro s a w inv _ hr hy hS H;refine⟨List.ne_nil_of_mem hr,fun j hj=>⟨low s inv hr j hj,?_⟩⟩
  by_cases hji:j=i
  ·rw[hji];exact hy.wpOp hi hS ⟨hS,H⟩
  have h1:=hdone _ _ _ H j (ready_mono hj hji);have h2:=low s inv hr j hj;omega
 |succ f ih=>
  intro s a w inv hfree hr hy hS H;refine⟨List.ne_nil_of_mem hr,fun j hj=>⟨low s inv hr j hj,?_⟩⟩
  by_cases hji:j=i
  ·rw[hji];exact hy.wpOp hi hS ⟨hS,H⟩
  have h1:=(H.2 j (ready_mono hj hji)).2;obtain⟨hjun,oj,hoj,hall⟩:=mem_ready.1 hj;have hnot:∀e∈oj.after,Region.binds md e=true->e.on≠i:=by
   intro e he hb heq;have h2:=hall e he hb;rw[heq,getD_both (mem_ready.1 hr).1]at h2
   cases h2
  have h2:=wpOp_putIf hoj (hfree j oj hoj hji hjun hnot) (fun cs b=>hsel i oi cs b hi) (fun cs b=>hsel j oj cs b hoj) hQ hy h1;refine wpOp_mono (fun a' w' h3=>⟨h3.2.1,ih _ a' w' (inv.set hj (low s inv hr j hj)) ?_ (ready_mono hr (Ne.symm hji)) h3.1 h3.2.1 ?_⟩) h2
  ·intro k ok hk hki hun hno
   refine hfree k ok hk hki ?_ hno
   by_cases hjk:j=k
   ·rw[<-hjk];exact hjun
   rw[getD_set_ne true hjk]at hun;exact hun
  rw[Array.setIfInBounds_comm _ _ hji];exact h3.2.2
def oh_(md:Region.Mode)(ops:Array Oper)(g n:Nat):List (Nat×Bool)->Array Bool->Bool
 |[],s=>Region.seqB md ops g n s
 |(k,b) :: is,s=>decide (k<n) && (if b then decide (Region.ready md ops s=[k]) else(Region.ready md ops s).contains k && Region.free md ops s k) && oh_ md ops g n is (s.setIfInBounds k true)
def b4_(P:Program)(ops:Array Oper)(Q:Exit->Act->World->Prop)(S:World->Prop)(T:Act->World->Prop):List (Nat×Bool)->Act->World->Prop
 |[],a,w=>T a w
 |(k,true) :: is,a,w=>wpOp P ops Q k (fun a' w'=>S w'/\b4_ P ops Q S T is a' w') a w
 |(k,false) :: is,a,w=>∃o v,ops[k]?=some o/\YieldsIf P ops S o v a/\(∀c a w,Q (.panic c) (a.put o.dst v) w->Q (.panic c) a w)/\b4_ P ops Q S T is (a.put o.dst v) w
theorem mV_{T:Act->World->Prop}{k:Nat}{is:List (Nat×Bool)}{a:Act}{w:World}(o:Oper)(v:Value)(ho:ops[k]?=some o)(hq:∀c a w,Q (.panic c) (a.put o.dst v) w->Q (.panic c) a w)
  (hw:Region.wanted o (yielded ops a.tmps)=true) (hy:∀w,S w->(execOp a.eval o).run P w=.ok (.value v) w) (h:b4_ P ops Q S T is (a.put o.dst v) w):b4_ P ops Q S T ((k,false) :: is) a w:=
 ⟨o,v,ho,Or.inl ⟨hw,hy⟩,hq,h⟩
theorem flow_op{T:Act->World->Prop}{k:Nat}{is:List (Nat×Bool)}{a:Act}{w:World}(o:Oper)(ho:ops[k]?=some o)
  (h:∀K:Act->World->Prop,(∀a' w',S w'->b4_ P ops Q S T is a' w'->K a' w')->if Region.wanted o (yielded ops a.tmps)=true then o.wp P a w K Q else K (a.put o.dst undef) w):b4_ P ops Q S T ((k,true) :: is) a w:=by
 have h1:=h (fun a' w'=>S w'/\b4_ P ops Q S T is a' w') (fun a' w' h1 h2=>⟨h1,h2⟩);show wpOp P ops Q k _ a w;unfold wpOp;simp only[ho]
 split
 ·rename_i hw;rw[if_pos hw]at h1;exact Or.inl h1
 rename_i hw;rw[if_neg hw]at h1;exact h1
theorem cP_{l:List Oper}{S:World->Prop}{T:Act->World->Prop}{k:Nat}{is:List (Nat×Bool)}{a:Act}{w:World}(o:Oper)(v:Value)(ho:l[k]?=some o)(hq:∀c a w,Q (.panic c) (a.put o.dst v) w->Q (.panic c) a w)
  (hw:Region.wanted o (yielded l.toArray a.tmps)=true) (hy:∀w,S w->(execOp a.eval o).run P w=.ok (.value v) w) (h:b4_ P l.toArray Q S T is (a.put o.dst v) w):b4_ P l.toArray Q S T ((k,false) :: is) a w:=
 mV_ o v (by simpa using ho) hq hw hy h
theorem co_{l:List Oper}{S:World->Prop}{T:Act->World->Prop}{k:Nat}{is:List (Nat×Bool)}{a:Act}{w:World}(o:Oper)(ho:l[k]?=some o)
  (h:∀K:Act->World->Prop,(∀a' w',S w'->b4_ P l.toArray Q S T is a' w'->K a' w')->if Region.wanted o (yielded l.toArray a.tmps)=true then o.wp P a w K Q else K (a.put o.dst undef) w):b4_ P l.toArray Q S T ((k,true) :: is) a w:=
 flow_op o (by simpa using ho) h
theorem im_{n g:Nat}{T:Act->World->Prop}(hsel:Region.noSelect ops=true)(hs:Region.sinkB md ops n=true)(hc:fanB md ops n=true)(hn:n<ops.size)(is:List (Nat×Bool)) :
  ∀(s:Array Bool) (a:Act) (w:World),HeadInv md ops n s->oh_ md ops g n is s=true->S w->b4_ P ops Q S T is a w →
  mC_ P md ops Q S n (fun s' a' w'=>Region.seqB md ops g n s'=true/\T a' w') is.length s a w:=by
 induction is with
 |nil=>intro s a w _ hB _ h;exact⟨hB,h⟩
 |cons x is ih=>
  intro s a w inv hB hS h;obtain⟨k,b⟩:=x;simp only[oh_,Bool.and_eq_true,decide_eq_true_eq]at hB;obtain⟨⟨hkn,hB1⟩,hB2⟩:=hB
  cases b with
  |true=>
   simp only[if_true,decide_eq_true_eq]at hB1;have hr:k∈Region.ready md ops s:=by rw[hB1];simp
   refine⟨List.ne_nil_of_mem hr,fun j hj=>?_⟩;rw[hB1]at hj;have e:=List.mem_singleton.1 hj;subst e;exact⟨hkn,wpOp_mono (fun a' w' h'=>⟨h'.1,ih _ a' w' (inv.set hr hkn) hB2 h'.1 h'.2⟩) h⟩
  |false=>
   simp only[Bool.false_eq_true,if_false,Bool.and_eq_true]at hB1;obtain⟨o,v,ho,hy,hQ,hK⟩:=h;have hr:k∈Region.ready md ops s:=by simpa using hB1.1
   exact jl_ ho (Region.noSelect_spec hsel) hQ hs hc hn hkn (fun s' a' w' hL=>seqB_ready hL.1) is.length s a w inv (Region.free_spec ho hB1.2) hr hy hS (ih _ _ w (inv.set hr hkn) hB2 hS hK)
def fK_(md:Region.Mode)(ops:Array Oper)(n:Nat)(is:List (Nat×Bool)):Bool:=
 Region.noSelect ops && decide (n<ops.size) && Region.sinkB md ops n && fanB md ops n && decide (is.length=n) && oh_ md ops (ops.size-n) n is (Array.replicate ops.size false)
theorem bH_{id:Nat}{a:Act}{w:World}{l:List Oper}(S:World->Prop)(n:Nat)(is:List (Nat×Bool))(hm:P.follows .mixedOrders=true)(hB:fK_ .any l.toArray n is=true)(hS:S { w with drawn:=w.drawn+1 })
  (h:b4_ P l.toArray Q S (fun a' w'=>wpList P l.toArray Q (l.drop n) a' w') is a { w with drawn:=w.drawn+1 }):(Code.region id l.toArray true).wp P Q a w:=by
 simp only[fK_,Bool.and_eq_true,decide_eq_true_eq]at hB;obtain⟨⟨⟨⟨⟨hsel,hn⟩,hs⟩,hc⟩,hlen⟩,hlex⟩:=hB;have hn':n<l.length:=by simpa using hn
 have hdl:(l.drop n).length=l.toArray.size-n:=by simp
 have inv0:HeadInv .any l.toArray n (Array.replicate l.toArray.size false):=
  ⟨by simp,fun j oj _ hl=>(by rw[getD_replicate_false]at hl;cases hl),fun t _ ht=>getD_in (by simpa using ht) (getD_replicate_false _ _)⟩
 have H:=im_ (md:=.any) (g:=l.toArray.size-n) hsel hs hc hn is _ a _ inv0 hlex hS h;have H2:=ii_ (g:=l.toArray.size-n) (fun s a' w' hL=>by
  have h3:=wpAny_of_seq (md:=.any) (Q':=Q) (l.drop n) n s a' w' (fun j=>by simp[List.getElem?_drop]) (by rw[hdl];exact hL.1) hL.2
  rwa [hdl]at h3) _ _ _ _ H
 refine wp_region_any hm ?_;rw[hlen,show n+(l.toArray.size-n)=l.toArray.size by omega]at H2;exact H2
end
end
section
open Go.RowKit
theorem iX_{n:Nat}{P:Program}{row:String}{args:Array Value}{w:World}{R:Value->World->Prop}(h:Rows P row args w R):RowsIn Fence.wide n P row args w R:=
 fun c cs _=>let ⟨v,w',r,s⟩:=h c cs;⟨v,w',r,stepsIn_wide.2 s⟩
section
variable {P:Program} {ops:Array Oper} {Q:Exit->Act->World->Prop} {md:Region.Mode} {n lp:Nat}
theorem hN_(hnd:∀(i:Nat) (o:Oper),ops[i]?=some o->∀c,o.op≠.defer c)(hq:¬LetsOut Q){i:Nat}{K:Act->World->Prop}{a:Act}{w:World}(h:wpOp P ops Q i K a w):wpOpIn (Fence.wide.inRound lp) n P ops Q i K a w:=by
 unfold wpOp at h;unfold wpOpIn
 cases ho:ops[i]? with
 |none=>simpa[ho]using h
 |some o=>
  simp only[ho]at h ⊢
  split
  ·rename_i hw
   rw[if_pos hw]at h
   rcases h with h|h
   ·refine⟨fun _ _=>trivial,?_⟩
    rw[Fence.inRound_round,Oper.semAt_eq _ _ _ (hnd i o ho)];unfold Oper.wp at h;generalize (execOp a.eval o).run P w=r at *
    cases r with
    |ok x w'=>
     cases x with
     |value v=>exact h
     |skip=>exact h
     |defer d=>exact h
     |enter f args=>exact⟨fun e=>(by cases e),CallsIn.inRound lp (callsIn_wide.2 h)⟩
     |row row args=>exact⟨fun e=>(by cases e),iX_ (n:=n-1) h⟩
     |_=>exact h.elim
    |halt x w'=>cases x<;>exact h
   exact absurd h.2 hq
  rename_i hw
  rw[if_neg hw]at h;exact⟨fun _ _=>trivial,h⟩
theorem eD_(hnd:∀(i:Nat) (o:Oper),ops[i]?=some o->∀c,o.op≠.defer c)(hq:¬LetsOut Q):∀(f:Nat) (s:Array Bool) (a:Act) (w:World),wpAny P md ops Q f s a w->wpAnyIn (Fence.wide.inRound lp) n P md ops Q f s a w
 |0,_,_,_,h=>h
 |f+1,s,a,w,h=>⟨h.1,fun i hi=>hN_ hnd hq (wpOp_mono (fun a w=>eD_ hnd hq f _ a w) (h.2 i hi))⟩
def l4_(l:List Oper):Bool:=l.all fun o=>match o.op with | .defer _=>false|_=>true
theorem h1_{l:List Oper}(h:l4_ l=true)(i:Nat)(o:Oper)(ho:l.toArray[i]?=some o)(c):o.op≠.defer c:=by
 intro e;have h1:l[i]?=some o:=by simpa using ho
 have h2:=List.all_eq_true.1 h o (List.mem_of_getElem? h1);rw[e]at h2
 cases h2
theorem fu_{id:Nat}{a:Act}{w:World}{l:List Oper}(S:World->Prop)(k:Nat)(is:List (Nat×Bool))(hm:P.follows .mixedOrders=true)(hB:fK_ .any l.toArray k is=true)(hd:l4_ l=true)(hq:¬LetsOut Q)(hS:S { w with drawn:=w.drawn+1 })
  (h:b4_ P l.toArray Q S (fun a' w'=>wpList P l.toArray Q (l.drop k) a' w') is a { w with drawn:=w.drawn+1 }):(Code.region id l.toArray true).wpIn (Fence.wide.inRound lp) n P Q a w:=by
 simp only[fK_,Bool.and_eq_true,decide_eq_true_eq]at hB;obtain⟨⟨⟨⟨⟨hsel,hn⟩,hs⟩,hc⟩,hlen⟩,hlex⟩:=hB;have hn':k<l.length:=by simpa using hn
 have hdl:(l.drop k).length=l.toArray.size-k:=by simp
 have inv0:HeadInv .any l.toArray k (Array.replicate l.toArray.size false):=
  ⟨by simp,fun j oj _ hl=>(by rw[getD_replicate_false]at hl;cases hl),fun t _ ht=>getD_in (by simpa using ht) (getD_replicate_false _ _)⟩
 have H:=im_ (md:=.any) (g:=l.toArray.size-k) hsel hs hc hn is _ a _ inv0 hlex hS h;have H2:=ii_ (g:=l.toArray.size-k) (fun s a' w' hL=>by
  have h3:=wpAny_of_seq (md:=.any) (Q':=Q) (l.drop k) k s a' w' (fun j=>by simp[List.getElem?_drop]) (by rw[hdl];exact hL.1) hL.2
  rwa [hdl]at h3) _ _ _ _ H
 refine wpIn_region_any hm ?_;rw[hlen,show k+(l.toArray.size-k)=l.toArray.size by omega]at H2;exact eD_ (fun i o ho c=>h1_ hd i o ho c) hq _ _ _ _ H2
end
end
end Go.Proofs.YtinphfpdfodkkaaGreatDoor
