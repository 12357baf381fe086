/- Texts of the proof. -/
import Derived.Test.YtinphfpdfodkkaaGreatDoorM00
import Derived.Test.YtinphfpdfodkkaaGreatDoorM01
import Derived.Test.YtinphfpdfodkkaaGreatDoorM47
import Derived.Test.YtinphfpdfodkkaaGreatDoorM46
import Derived.Test.YtinphfpdfodkkaaGreatDoorM48
import Derived.Test.YtinphfpdfodkkaaGreatDoorM44
import Derived.Test.YtinphfpdfodkkaaGreatDoorProg
import Derived.Test.YtinphfpdfodkkaaGreatDoorM08
import Derived.Test.YtinphfpdfodkkaaGreatDoorM09
import Derived.Test.YtinphfpdfodkkaaGreatDoorM33
import Derived.Test.YtinphfpdfodkkaaGreatDoorM02
import Derived.Test.YtinphfpdfodkkaaGreatDoorM05
import Derived.Deep.QuietTactic
import Derived.BigQuiet
import Derived.Below
import Derived.OneCell
import Derived.Lib.Hide
import Derived.Shelf.Strings.BuilderK
set_option linter.unusedVariables false
set_option linter.unusedSimpArgs false
set_option maxHeartbeats 8000000
set_option maxRecDepth 100000
namespace Go.Proofs.YtinphfpdfodkkaaGreatDoor
namespace G
def textOf(m:Model)(p:Nat×Nat):Bytes:=if (nd m p.1).kind=3 then sl (U.pts (nd m p.1).data) p.2 (p.2+1) else[]
def refText(m:Model)(a b:Nat×Nat):Bytes:=
 (((all m (top m a.1)).drop ((all m (top m a.1)).idxOf a)).take ((all m (top m a.1)).idxOf b-(all m (top m a.1)).idxOf a)).flatMap (textOf m)
def pieceOf(m:Model)(a b:Nat×Nat)(h:Nat):Bytes:=
 if (nd m h).kind≠3 then[]
 else if h≠a.1/\before m (h,0) a=true then[]
 else if h≠b.1/\before m b (h,0)=true then[]
 else sl (U.pts (nd m h).data) (if h=a.1 then a.2 else 0) (if h=b.1 then b.2 else(U.pts (nd m h).data).length)
def progText(m:Model)(a b:Nat×Nat):Bytes:=(walk m (top m a.1)).flatMap (pieceOf m a b)
theorem cut_filter{α:Type}{lo hi:α->Bool}:∀{l:List α} {i j:Nat},(∀k x,l[k]?=some x->(lo x=true↔i<=k)/\(hi x=true↔k<j))->(l.drop i).take (j-i)=l.filter (fun x=>lo x && hi x)
 |[],i,j,h=>by simp
 |x :: l,i,j,h=>by
  have h0:=h 0 x rfl;have ht:∀k y,l[k]?=some y->(lo y=true↔i<=k+1)/\(hi y=true↔k+1<j):=fun k y hk=>h (k+1) y (by simpa using hk)
  cases i with
  |zero=>
   cases j with
   |zero=>
    have hx:hi x=false:=by
     cases e:hi x with
     |false=>rfl
     |true=>have:=h0.2.1 e;omega
    have ih:=cut_filter (lo:=lo) (hi:=hi) (l:=l) (i:=0) (j:=0) (fun k y hk=>⟨⟨fun _=>Nat.zero_le _,fun _=>(ht k y hk).1.2 (Nat.zero_le _)⟩,⟨fun e=>by have:=(ht k y hk).2.1 e;omega,fun e=>by omega⟩⟩);rw[List.filter_cons,hx,Bool.and_false,<-ih];simp
   |succ j=>
    have hx:hi x=true:=h0.2.2 (by omega);have hy:lo x=true:=h0.1.2 (Nat.le_refl _);have ih:=cut_filter (lo:=lo) (hi:=hi) (l:=l) (i:=0) (j:=j) (fun k y hk=>⟨⟨fun _=>Nat.zero_le _,fun _=>(ht k y hk).1.2 (Nat.zero_le _)⟩,⟨fun e=>by have:=(ht k y hk).2.1 e;omega,fun e=>(ht k y hk).2.2 (by omega)⟩⟩);rw[List.filter_cons,hx,hy,Bool.and_true,if_pos rfl,<-ih];simp
  |succ i=>
   have hy:lo x=false:=by
    cases e:lo x with
    |false=>rfl
    |true=>have:=h0.1.1 e;omega
   have ih:=cut_filter (lo:=lo) (hi:=hi) (l:=l) (i:=i) (j:=j-1) (fun k y hk=>⟨⟨fun e=>by have:=(ht k y hk).1.1 e;omega,fun e=>(ht k y hk).1.2 (by omega)⟩,⟨fun e=>by have:=(ht k y hk).2.1 e;omega,fun e=>(ht k y hk).2.2 (by omega)⟩⟩);rw[List.filter_cons,hy,Bool.false_and,if_neg Bool.false_ne_true,<-ih,List.drop_succ_cons]
   congr 1
   omega
theorem flat_filter{α β:Type}{p:α->Bool}{f:α->List β}:∀l:List α,(l.filter p).flatMap f=l.flatMap fun x=>if p x=true then f x else[]
 |[]=>rfl
 |x :: l=>by
  rw[List.filter_cons,List.flatMap_cons,<-flat_filter l]
  split
  ·rw[List.flatMap_cons]
  ·rw[List.nil_append]
theorem range_flat{β:Type}(l:List Nat)(g:Nat->List β):(List.range l.length).flatMap (fun i=>match l[i]? with|some c=>g c|none=>[])=l.flatMap g:=by
 induction l with
 |nil=>rfl
 |cons a l ih=>
  rw[List.length_cons,List.range_succ_eq_map,List.flatMap_cons,List.flatMap_map,List.flatMap_cons,<-ih];rfl
theorem WF.all_walk{m:Model}(W:WF m){F:Nat×Nat->Bytes}(hF:∀p,(nd m p.1).kind≠3->F p=[])(h:Nat):(all m h).flatMap F=(walk m h).flatMap fun x=>if (nd m x).kind=3 then(List.range (sizeOf m x+1)).flatMap fun i=>F (x,i) else[]:=by
 refine W.down_ind (P:=fun h=>(all m h).flatMap F=(walk m h).flatMap fun x=>if (nd m x).kind=3 then(List.range (sizeOf m x+1)).flatMap fun i=>F (x,i) else[]) (fun h ih=>?_) h;rw[W.all_eq,W.walk_eq,List.flatMap_cons,List.flatMap_assoc]
 by_cases h3:(nd m h).kind=3
 ·rw[if_pos h3,W.leaf h (by omega),List.flatMap_nil,List.flatMap_nil,List.append_nil]
  refine flat_congr fun i _=>?_;rw[List.flatMap_cons];unfold inside;rw[if_pos (by omega),List.flatMap_nil,List.append_nil]
 ·rw[if_neg h3,List.nil_append]
  have e1:∀i,List.flatMap F ((h,i) :: inside m (all m) h i)=(inside m (all m) h i).flatMap F:=fun i=>by rw[List.flatMap_cons,hF (h,i) h3,List.nil_append]
  simp only[e1]
  by_cases h2:2<(nd m h).kind
  ·rw[W.leaf h (by omega),List.flatMap_nil]
   have:∀i∈List.range (sizeOf m h+1),(inside m (all m) h i).flatMap F=(fun _=>([]:Bytes)) i:=fun i _=>by unfold inside;rw[if_pos h2];rfl
   rw[flat_congr this];simp
  ·have hs:sizeOf m h=(nd m h).kids.length:=by unfold sizeOf;rw[if_neg h2]
   rw[hs,List.range_succ,List.flatMap_append];have e2:([(nd m h).kids.length]:List Nat).flatMap (fun i=>(inside m (all m) h i).flatMap F)=[]:=by
    rw[List.flatMap_cons,List.flatMap_nil,List.append_nil];unfold inside;rw[if_neg h2,List.getElem?_eq_none (Nat.le_refl _)];rfl
   rw[e2,List.append_nil,List.flatMap_assoc];have e3:∀i∈List.range (nd m h).kids.length,(inside m (all m) h i).flatMap F=(fun i=>match (nd m h).kids[i]? with|some c=>(walk m c).flatMap fun x=>if (nd m x).kind=3 then(List.range (sizeOf m x+1)).flatMap fun i=>F (x,i) else[]|none=>[]) i:=by
    intro i _;unfold inside;rw[if_neg h2];dsimp only
    cases hc:(nd m h).kids[i]? with
    |none=>rfl
    |some c=>exact ih c (List.mem_of_getElem? hc)
   rw[flat_congr e3];exact range_flat (nd m h).kids _
theorem sl_step{L:List Bytes}{f k:Nat}(hf:f<=k)(hk:k<L.length):sl L f (k+1)=sl L f k++sl L k (k+1):=by
 have e:L.take (k+1)=L.take k++[L[k]]:=by rw[List.take_add_one,List.getElem?_eq_getElem hk];rfl
 have hl:(L.take k).length=k:=by rw[List.length_take];omega
 unfold sl;rw[e,List.drop_append_of_le_length (by omega),List.drop_append_of_le_length (by omega),List.flatten_append,List.drop_of_length_le (by omega:(L.take k).length<=k),List.nil_append]
theorem sl_none{L:List Bytes}{f t:Nat}(h:t<=f):sl L f t=[]:=by
 unfold sl;rw[List.drop_of_length_le (by rw[List.length_take];omega)];rfl
theorem sl_sum{L:List Bytes}{f t:Nat}(ht:t<=L.length):∀N,((List.range N).flatMap fun i=>if f<=i/\i<t then sl L i (i+1) else[])=sl L f (min t N)
 |0=>by rw[sl_none (by omega)];rfl
 |N+1=>by
  rw[List.range_succ,List.flatMap_append,sl_sum ht N,List.flatMap_cons,List.flatMap_nil,List.append_nil]
  by_cases h1:N<t
  ·rw[show min t N=N by omega,show min t (N+1)=N+1 by omega]
   by_cases h2:f<=N
   ·rw[if_pos ⟨h2,h1⟩,sl_step h2 (by omega)]
   ·rw[if_neg (fun h=>h2 h.1),sl_none (by omega),sl_none (by omega)];rfl
  ·rw[if_neg (fun h=>h1 h.2),List.append_nil,show min t N=min t (N+1) by omega]
theorem leaf_cmp2{m:Model}(W:WF m){a:Nat×Nat}{x:Nat}(hx:2<(nd m x).kind)(hne:a.1≠x)(i:Nat):lcmp m a (x,i)=lcmp m a (x,0):=by
 have hc:¬contains m x a.1=true:=by
  refine W.up_ind (P:=fun y=>y≠x->¬contains m x y=true) (fun y hy hne=>?_) (fun y p hy ih hne=>?_) a.1 hne
  ·rw[W.contains_root hy,beq_iff_eq];exact fun e=>hne e.symm
  ·rw[W.contains_step hy,Bool.or_eq_true_iff,beq_iff_eq]
   rintro(e|h)
   ·exact hne e.symm
   ·by_cases e:p=x
    ·subst e
     have h2:=(W.par y p hy).2;rw[W.leaf p (by omega)]at h2
     cases h2
    ·exact ih e h
 unfold lcmp;dsimp only;rw[if_neg hne,if_neg hne]
 by_cases h1:contains m a.1 x=true
 ·rw[if_pos h1,if_pos h1]
 ·rw[if_neg h1,if_neg h1,if_neg hc,if_neg hc]
theorem WF.leaf_cmp{m:Model}(W:WF m){a:Nat×Nat}{x:Nat}(hx:(nd m x).kind=3)(hne:a.1≠x)(i:Nat):lcmp m a (x,i)=lcmp m a (x,0):=leaf_cmp2 W (by omega) hne i
theorem WF.walk_top{m:Model}(W:WF m){h x:Nat}(hl:h<m.length)(hx:x∈walk m (top m h)):top m x=top m h/\x<m.length:=by
 have key:∀t,t<m.length->∀x,x∈walk m t->x<m.length:=by
  intro t;refine W.down_ind (P:=fun t=>t<m.length->∀x,x∈walk m t->x<m.length) (fun t ih ht x hx=>?_) t;rw[W.walk_eq]at hx
  rcases List.mem_cons.1 hx with e|hx
  ·rw[e];exact ht
  ·obtain⟨c,hc,hxc⟩:=List.mem_flatMap.1 hx
   exact ih c hc (W.kid t c hc).1 x hxc
 have hxl:=key _ (W.top_lt h hl) x hx;have hc:=(W.mem_walk _ hxl).1 hx;have h1:=(W.pidx_contains _ hc).2;have h2:=(W.pidx_contains _ (W.top_contains h)).2;exact⟨by rw[<-h1,h2],hxl⟩
theorem text_ref{m:Model}(W:WF m){a b:Nat×Nat}(ha:PtOk m a)(hb:PtOk m b)(ht:top m a.1=top m b.1):progText m a b=refText m a b:=by
 have ma : a ∈ all m (top m a.1) := (W.mem_all _ (W.top_lt _ ha.1)).2 ⟨W.top_contains _, ha⟩; have mb : b ∈ all m (top m a.1) := (W.mem_all _ (W.top_lt _ ha.1)).2 ⟨by rw [ht]; exact W.top_contains _, hb⟩; have la := List.idxOf_lt_length_of_mem ma; have lb := List.idxOf_lt_length_of_mem mb; have ga := List.getElem_idxOf la; have gb := List.getElem_idxOf lb; have hs := W.all_sorted (top m a.1); rw [List.pairwise_iff_getElem] at hs; have hlt : ∀ (c : Nat × Nat) (k : Nat) (x : Nat × Nat) (lc : (all m (top m a.1)).idxOf c < (all m (top m a.1)).length), (all m (top m a.1))[k]? = some x →
   (k<(all m (top m a.1)).idxOf c->cmpL (pcode m x) (pcode m c)=-1)/\(k=(all m (top m a.1)).idxOf c->x=c)/\((all m (top m a.1)).idxOf c<k->cmpL (pcode m c) (pcode m x)=-1):=by
  intro c k x lc hk;have gc:=List.getElem_idxOf lc;have lk:k<(all m (top m a.1)).length:=by
   rcases Nat.lt_or_ge k (all m (top m a.1)).length with h|h
   ·exact h
   ·rw[List.getElem?_eq_none h]at hk;cases hk
  have gk:(all m (top m a.1))[k]=x:=by rw[List.getElem?_eq_getElem lk]at hk;injection hk
  refine⟨fun h=>?_,fun h=>?_,fun h=>?_⟩
  ·have:=hs _ _ lk lc h;rwa [gk,gc]at this
  ·subst h;rw[<-gk,gc]
  ·have:=hs _ _ lc lk h;rwa [gk,gc]at this
 unfold refText;rw[cut_filter (lo:=fun x=>decide (cmpL (pcode m a) (pcode m x)<=0)) (hi:=fun x=>decide (cmpL (pcode m x) (pcode m b)=-1)) (fun k x hk=>?_),flat_filter,W.all_walk (F:=fun x=>if (decide (cmpL (pcode m a) (pcode m x)<=0) && decide (cmpL (pcode m x) (pcode m b)=-1))=true then textOf m x else[]) (fun p hp=>?_)]
 ·unfold progText
  refine flat_congr fun x hx=>?_;obtain⟨htx,hxl⟩:=W.walk_top ha.1 hx;unfold pieceOf
  by_cases h3:(nd m x).kind=3
  ·rw[if_neg (fun h=>h h3),if_pos h3]
   have hsz:sizeOf m x=(U.pts (nd m x).data).length:=by unfold sizeOf;rw[if_pos (by omega)]
   have hlo:∀i,cmpL (pcode m a) (pcode m (x,i))<=0↔(if x=a.1 then a.2 else 0)<=i/\¬(x≠a.1/\before m (x,0) a=true):=by
    intro i;rw[<-lcmp_code W (show top m a.1=top m (x,i).1 from htx.symm)]
    by_cases e:x=a.1
    ·rw[if_pos e]
     have:lcmp m a (x,i)=if a.2<i then -1 else if i<a.2 then 1 else 0:=by unfold lcmp;rw[if_pos e.symm]
     rw[this];constructor
     ·intro h
      refine⟨?_,fun h=>h.1 e⟩
      split at h
      ·omega
      ·split at h
       ·omega
       ·omega
     ·rintro⟨h,_⟩
      split
      ·omega
      ·split
       ·omega
       ·omega
    ·rw[if_neg e,W.leaf_cmp h3 (fun h=>e h.symm) i]
     unfold before;rw[lcmp_neg W (show top m a.1=top m (x,0).1 from htx.symm)];have h1:=lcmp_cases W (a:=a) (b:=(x,0)) (show top m a.1=top m (x,0).1 from htx.symm);constructor
     ·exact fun h=>⟨Nat.zero_le _,fun h2=>by have:=of_decide_eq_true h2.2;omega⟩
     ·rintro⟨_,h⟩
      rcases h1 with h1|h1|h1
      ·omega
      ·omega
      ·exact absurd ⟨e,decide_eq_true (by omega)⟩ h
   have hhi:∀i,i<sizeOf m x+1->(cmpL (pcode m (x,i)) (pcode m b)=-1↔i<(if x=b.1 then b.2 else sizeOf m x+1)/\¬(x≠b.1/\before m b (x,0)=true)):=by
    intro i hi;have htb:top m b.1=top m x:=by rw[htx,ht]
    rw[cmpL_neg,<-lcmp_code W (show top m b.1=top m (x,i).1 from htb)]
    by_cases e:x=b.1
    ·rw[if_pos e]
     have:lcmp m b (x,i)=if b.2<i then -1 else if i<b.2 then 1 else 0:=by unfold lcmp;rw[if_pos e.symm]
     rw[this];constructor
     ·intro h
      refine⟨?_,fun h=>h.1 e⟩
      split at h
      ·omega
      ·split at h
       ·omega
       ·omega
     ·rintro⟨h,_⟩
      rw[if_neg (by omega),if_pos h]
    ·rw[if_neg e,W.leaf_cmp h3 (fun h=>e h.symm) i]
     unfold before;have h1:=lcmp_cases W (a:=b) (b:=(x,0)) (show top m b.1=top m (x,0).1 from htb);have hn0:lcmp m b (x,0)≠0:=fun h0=>by
      rw[lcmp_code W (show top m b.1=top m (x,0).1 from htb)]at h0;have h5:=cmpL_eq h0;have h6:=List.append_inj_left' h5 rfl;have inj:∀{x y:List Nat},x.map odd=y.map odd->x=y:=by
       intro x
       induction x with
       |nil=>intro y h;cases y with|nil=>rfl|cons=>cases h
       |cons c x ih=>
        intro y h
        cases y with
        |nil=>cases h
        |cons d y=>
         rw[List.map_cons,List.map_cons]at h;injection h with h7 h8
         have:c=d:=by unfold odd at h7;omega
         rw[this,ih h8]
      exact e (W.pidx_inj _ _ htb (inj h6)).symm
     constructor
     ·exact fun h=>⟨hi,fun h2=>by have:=of_decide_eq_true h2.2;omega⟩
     ·rintro⟨_,h⟩
      rcases h1 with h1|h1|h1
      ·exact absurd ⟨e,decide_eq_true (by omega)⟩ h
      ·exact absurd h1 hn0
      ·omega
   have hsum:∀(f t:Nat),t<=(U.pts (nd m x).data).length->(∀i,i<sizeOf m x+1->f<=i->i<t->(decide (cmpL (pcode m a) (pcode m (x,i))<=0) && decide (cmpL (pcode m (x,i)) (pcode m b)=-1))=true)->(∀i,i<sizeOf m x+1->(decide (cmpL (pcode m a) (pcode m (x,i))<=0) && decide (cmpL (pcode m (x,i)) (pcode m b)=-1))=true->f<=i/\(i<t\/i=sizeOf m x)) →
     ((List.range (sizeOf m x+1)).flatMap fun i=>if (decide (cmpL (pcode m a) (pcode m (x,i))<=0) && decide (cmpL (pcode m (x,i)) (pcode m b)=-1))=true then textOf m (x,i) else[])=sl (U.pts (nd m x).data) f t:=by
    intro f t htl h h';rw[<-show min t (sizeOf m x+1)=t by omega,<-sl_sum htl];refine flat_congr fun i hi=>?_;have hi:=List.mem_range.1 hi;have hto:textOf m (x,i)=sl (U.pts (nd m x).data) i (i+1):=by unfold textOf;rw[if_pos h3]
    rw[hto]
    by_cases h4:f<=i/\i<t
    ·rw[if_pos h4,if_pos (h i hi h4.1 h4.2)]
    ·rw[if_neg h4]
     split
     ·rename_i h5
      obtain⟨h6,h7⟩:=h' i hi h5
      rcases h7 with h7|h7
      ·exact absurd ⟨h6,h7⟩ h4
      ·unfold sl
       rw[List.drop_of_length_le (by rw[List.length_take];omega)];rfl
     ·rfl
   have hP:∀i,i<sizeOf m x+1->((decide (cmpL (pcode m a) (pcode m (x,i))<=0) && decide (cmpL (pcode m (x,i)) (pcode m b)=-1))=true↔((if x=a.1 then a.2 else 0)<=i/\¬(x≠a.1/\before m (x,0) a=true))/\(i<(if x=b.1 then b.2 else sizeOf m x+1)/\¬(x≠b.1/\before m b (x,0)=true))):=fun i hi=>by
    rw[Bool.and_eq_true,decide_eq_true_eq,decide_eq_true_eq,hlo i,hhi i hi]
   have hskip:∀{q:Prop},(∀i,i<sizeOf m x+1->¬(decide (cmpL (pcode m a) (pcode m (x,i))<=0) && decide (cmpL (pcode m (x,i)) (pcode m b)=-1))=true)->([]:Bytes)=(List.range (sizeOf m x+1)).flatMap fun i=>if (decide (cmpL (pcode m a) (pcode m (x,i))<=0) && decide (cmpL (pcode m (x,i)) (pcode m b)=-1))=true then textOf m (x,i) else[]:=by
    intro _ h;exact(List.flatMap_eq_nil_iff.2 fun i hi=>by rw[if_neg (h i (List.mem_range.1 hi))]).symm
   by_cases c1:x≠a.1/\before m (x,0) a=true
   ·rw[if_pos c1]
    exact hskip (q:=True) (fun i hi h=>((hP i hi).1 h).1.2 c1)
   ·rw[if_neg c1]
    by_cases c2:x≠b.1/\before m b (x,0)=true
    ·rw[if_pos c2]
     exact hskip (q:=True) (fun i hi h=>((hP i hi).1 h).2.2 c2)
    ·rw[if_neg c2,hsum (if x=a.1 then a.2 else 0) (if x=b.1 then b.2 else(U.pts (nd m x).data).length) ?_ (fun i hi h4 h5=>?_) (fun i hi h4=>?_)]
     ·split
      ·rename_i e
       have:=hb.2;rw[<-e,hsz]at this;exact this
      ·exact Nat.le_refl _
     ·rw[hP i hi]
      refine⟨⟨h4,c1⟩,?_,c2⟩
      split at h5
      ·rename_i e;rw[if_pos e];exact h5
      ·rename_i e;rw[if_neg e];exact hi
     ·obtain⟨⟨h5,_⟩,h6,_⟩:=(hP i hi).1 h4
      refine⟨h5,?_⟩
      split at h6
      ·rename_i e;rw[if_pos e];exact Or.inl h6
      ·rename_i e
       rw[if_neg e,<-hsz];omega
  ·rw[if_pos h3,if_neg h3]
 ·split
  ·unfold textOf;rw[if_neg hp]
  ·rfl
 ·show(decide _=true↔_)/\(decide _=true↔_)
  rw[decide_eq_true_eq,decide_eq_true_eq];obtain⟨p1,p2,p3⟩:=hlt a k x la hk;obtain⟨q1,q2,q3⟩:=hlt b k x lb hk;constructor
  ·constructor
   ·intro h
    rcases Nat.lt_or_ge k ((all m (top m a.1)).idxOf a)with h1|h1
    ·have:=p1 h1
     rw[cmpL_neg]at this;omega
    ·exact h1
   ·intro h
    rcases Nat.lt_or_ge ((all m (top m a.1)).idxOf a) k with h1|h1
    ·have:=p3 h1;omega
    ·rw[p2 (by omega),cmpL_self];omega
  ·constructor
   ·intro h
    rcases Nat.lt_or_ge k ((all m (top m a.1)).idxOf b)with h1|h1
    ·exact h1
    ·rcases Nat.lt_or_ge ((all m (top m a.1)).idxOf b) k with h2|h2
     ·have:=q3 h2
      rw[cmpL_neg]at this;omega
     ·rw[q2 (by omega),cmpL_self]at h;omega
   ·exact fun h=>q1 h
end G
end Go.Proofs.YtinphfpdfodkkaaGreatDoor
namespace Go.Proofs.YtinphfpdfodkkaaGreatDoor
open Go.RowKit
namespace H
theorem append_bytes(a b:List UInt8):(⟨a.toArray⟩:ByteArray)++⟨b.toArray⟩=⟨(a++b).toArray⟩:=by
 apply ByteArray.ext;simp[ByteArray.data_append]
end H
end Go.Proofs.YtinphfpdfodkkaaGreatDoor
namespace Go.Proofs.YtinphfpdfodkkaaGreatDoor
open Go.RowKit Go.Sort
namespace A
open H G R
theorem step_8{lim:Option Nat}{m:Model}{o:G.Op}(hk:o.kind % 10=8):G.step lim m o=if has m (o.at_ m)=false then([],6,m) else([],copyOf m (o.at_ m) (decide (0<o.n))):=by
 unfold G.step;rw[if_neg (by omega),if_neg (by omega)]
 split
 ·rfl
 ·repeat (first|rw[if_pos hk]|rw[if_neg (by omega)])
theorem copy71(w0 w:World)(X:Tw)(a:Nat)(deep:Bool)(h:TwIs w0 w X)(n1:a<X.m.length)(hfw:X.m.length<=2000)(hA:∀i,(nd X.m i).attrs.length<=100000)(hA2:∀i,(nd X.M.m i).attrs.length<=100000)
  (m1 m2:Model) (e1:m1=if has X.m a=false then X.m else(copyOf X.m a deep).2) (e2:m2=if has X.m a=false then X.M.m else(copyOf X.M.m a deep).2) (hkeep:Sim m1 m2) :
  Calls Tryz.prog 71 #[.pointer (some ⟨X.tb,0,none⟩),.int .i64 (a:Nat),.bool deep] w fun e w'=>∃X',e=.returned (.bool true)/\TwIs w0 w' X'/\X'.tb=X.tb/\X'.T.bs=X.T.bs/\X'.T.st=X.T.st/\X'.m=m1/\X'.M.m=m2:=by
 cases hha:has X.m a with
 |false=>
  rw[if_pos hha]at e1 e2;refine(cpy_gone w0 w X a deep h n1 hfw hha).mono ?_;rintro e w' ⟨rfl,hX⟩;exact⟨X,rfl,hX,rfl,rfl,rfl,e1.symm,e2.symm⟩
 |true=>
  rw[if_neg (by rw[hha];simp)]at e1 e2;subst e1 e2
  by_cases hk1:(nd X.m a).kind=1
  ·exact cpy_doc w0 w X a deep h n1 hfw hha hk1 hA hA2 hkeep
  ·exact cpy_node w0 w X a deep h n1 hfw hha hk1 hA hA2 hkeep
theorem do9_1(w0 w:World)(X:Tw)(o:G.Op)(k:Nat)(h:TwIs w0 w X)(hF:Fit w0 X o k)(hk:o.kind % 10=9)(hha:has X.m (o.at_ X.m)=false) :
  Calls Tryz.prog 24 #[.pointer (some ⟨X.tb,0,none⟩),opV o] w fun e w'=>DoIs w0 w X o e w':=by
 have hl:=h.pos_len;obtain⟨e1,e2,e3,n1,n2,n3,q1,q2⟩:=op_nums o hl hF.few hF.u8 X.m rfl;have HOV:=opV_eq o;rw[HOV.out];have ek:Int.tmod (o.kind:Int) 10=9:=by rw[show(10:Int)=((10:Nat):Int)from rfl,<-Int.ofNat_tmod,hk];rfl
 obtain⟨hb1,HO1,HN0⟩:=op_box w o;have H1:=hi_ (h.below hb1);have HB1:=hi_ hb1;obtain⟨g,cap,hv,_,hcap,_⟩:=h.toMid.cells hl;have HF:=hi_ hF;obtain⟨⟨ha1,ha2,ha3,hfw⟩,⟨wa1,wa2,wa3⟩,wn1,wc1,hn0,hn00,hn1,hn11⟩:=do_facts hF hl;clear hb1 HOV
 go_enter Tryz.func24,Tryz.ntmps24
 obtain⟨c0,c1,c2,hlt⟩:=cells3 H1.out.blk;obtain⟨o0,o1,o2,o3,o4,o5,o6,o7⟩:=cells8 HO1.out;have hlo:=HO1.out.lt;rw[hv]at c2;go_upto_region 2 with fail
 go_quiet (fail)
 rw[op_c rfl hfw];have H2:=hi_ (H1.out.below (bdN (Below.refl _ _) nq));have HO2:=hi_ (HO1.out.below (bdN (Below.refl _ _) nq));have HB2:=hi_ (bdN HB1.out nq);have HN2:=hi_ (HN0.out nq);clear HN0;clear H1 HO1 HB1 c0 c1 c2 hlt o0 o1 o2 o3 o4 o5 o6 o7 hlo;generalize (w.alloc (.cells #[.int .u8 (o.kind:Nat),.int .u8 (o.a:Nat),.int .u8 (o.b:Nat),.int .u8 (o.c:Nat),.string ⟨o.s.toArray⟩,.string ⟨o.t.toArray⟩,.int .i8 o.n,.int .i8 o.k] 65)).drewN nq=w2 at *;obtain⟨c0,c1,c2,hlt⟩:=cells3 H2.out.blk;obtain⟨o0,o1,o2,o3,o4,o5,o6,o7⟩:=cells8 HO2.out;have hlo:=HO2.out.lt;rw[hv]at c2;have QH:=hi_ (fun(i:Nat) W (hb:Below w2.heap.size w2 W)=>mHas X.M i W (H2.out.model.below hb));have HSm:=hi_ h.sim;have HV:=hi_ hv;have hst1:=step_9 (lim:=some 64) (m:=X.m) hk
 have hst2:=step_9 (lim:=none) (m:=X.M.m) (o:=o) hk;have hat:o.at_ X.M.m=o.at_ X.m:=by unfold Op.at_;rw[h.sim.len]
 rw[hat,<-h.sim.has]at hst2;obtain⟨a,ha⟩:∃a,a=o.at_ X.m:=⟨_,rfl⟩;rw[<-ha]at hst1 hst2 n1 hha ⊢;have HSt1:=hi_ hst1;have HSt2:=hi_ hst2;clear hst1 hst2 hat ha h hF e1 e2 e3 wa1 wa2 wa3 wn1 wc1 hn0 hn00 hn1 hn11 q1 q2;go_wp2_with fail
 refine(QH.out a w2 (Below.refl _ _)).mono ?_;rintro e w2' ⟨rfl,rfl⟩;rw[<-HSm.out.has];have hz:=H2.out.toMid.get hv n1;have hgl:=hz.2.2;have hai:(a:Int)<(X.m.length:Int):=by omega
 have ha0:(0:Int)<=(a:Int):=by omega
 have D0:=lc_ c0 hlt;have D2:=lc_ c2 hlt;rw[hv1_gone hha]at hz;have DZ:=fun d:Later w2.heap.size w2=>Later.cell hz.1 hgl d;have HR1:Hid (G.step (some 64) X.m o=([],6,X.m)):=hi_ (by rw[HSt1.out,if_pos hha]);have HR2:Hid (G.step none X.M.m o=([],6,X.M.m)):=hi_ (by rw[HSt2.out,if_pos hha]);have QN:=hi_ (fun W (hb:Below w2.heap.size w2 W)=>drop_none X.T (-1) W (H2.out.below hb).tree.mem (by omega) (by omega) (ptr_gone H2.out.tree.fits 1));rw[hha];clear hha;go_upto_region 8 with fail
 refine wp_region_mid 11 _ _ (by kernel_rfl) (by kernel_rfl) rfl ?_;simp only[List.take_succ_cons,List.take_zero];repeat (go_big_quiet_step (fail))
 refine wq_ (fun dq=>?_);intro K hK;have HD3:=hi_ dq.h;clear D0 D2 DZ;generalize dq.w=w3 at *;go_simp
 go_at_call 72
 refine(QN.out w3 HD3.out).mono ?_;rintro e w4 ⟨rfl,hb4⟩;have HB4:=bt_ HD3 hb4;go_simp
 refine hK _ _ (midQ_normal ?_);clear hK K;repeat (go_big_quiet_step (fail))
 refine wq_ (fun dq=>?_);have HB5:=bt_ HB4 dq.h;generalize dq.w=wB at *;have H5:=hi_ (H2.out.below HB5.out);have HSw:=hi_ (fun W (fr:H.Frame (fun k=>k=g) wB W)=>H5.out.sweep HV.out (H.Frame.refl _ _) (H.Frame.refl _ _) H5.out.model (MLike.refl _ _) fr);have HR0:=hi_ (H5.out.row0 (H.Frame.refl _ _) (H.Frame.refl _ _) (hv1 X.T X.pos X.m));have HKp:Hid (∀j,j<X.m.length->has X.M.m j=true->hv1 X.T X.pos X.m j=hv1 X.T X.pos X.m j):=hi_ (fun _ _ _=>rfl);have HGn:Hid (∀j,has X.M.m j=false->hv1 X.T X.pos X.m j=-1):=hi_ (fun j hj=>hv1_gone (by rw[HSm.out.has];exact hj));have HEnd:=hi_ (fun W (fr:H.Frame (fun k=>k=g) wB W) hro=>H5.out.dropped HV.out (H.Frame.refl _ _) (Goes.refl _ _) H5.out.tree (H.Frame.refl _ _) H5.out.model (MLike.refl _ _) HSm.out rfl rfl fr hro);clear c0 c1 c2 hlt o0 o1 o2 o3 o4 o5 o6 o7 hlo hz hgl
 go_wp2_with fail
 go_loopw [40] (fun v40 wr => ∃ (j : Nat), v40 = .int .i64 (j : Nat) ∧ j ≤ X.m.length ∧ Hid (H.Frame (fun k => k = g) wB wr) ∧ Hid (wr.ownsRow X.B 3 1 X.hv X.m.length (intVs (mixL (hv1 X.T X.pos X.m) (hv1 X.T X.pos X.m) X.m.length j))))
   (fun v40 _=>X.m.length-(Go.RowKit.intOf v40).toNat)
 case atStart=>exact⟨0,rfl,Nat.zero_le _,hi_ (H.Frame.refl _ _),HR0⟩
 case round=>
  obtain⟨j,rfl,hj,HFr,HRo⟩:=hrel
  rcases Nat.lt_or_ge j X.m.length with hlt|hge
  ·have hii:(j:Int)<(X.m.length:Int):=by omega
   have hj0:(0:Int)<=(j:Int):=by omega
   obtain⟨hmr,hbr⟩:=HSw.out wr HFr.out;obtain⟨c0',c1',c2',hlt'⟩:=cells3 hbr;obtain⟨⟨u,hcu⟩,hfu⟩:=sweep_cell HV.out HRo.out hlt;have Q:=hi_ (mHas X.M j wr hmr);have HSame:=hi_ (HKp.out j hlt);have HGone:=hi_ (HGn.out j);clear hmr hbr;go_wp2_with fail
   refine Q.out.mono ?_;rintro e wr' ⟨rfl,rfl⟩
   cases hg:has X.M.m j with
   |true=>
    have HRo2:=hi_ (show wr.ownsRow X.B 3 1 X.hv X.m.length (intVs (mixL (hv1 X.T X.pos X.m) (hv1 X.T X.pos X.m) X.m.length (j+1))) by rw[mixL_same _ _ _ _ rfl];exact HRo.out);clear hg;go_wp2_with fail
    go_roundw
    case rel=>exact⟨j+1,by go_num,by omega,HFr,HRo2⟩
    case measure=>simp[Go.RowKit.intOf];omega
   |false=>
    have HRo2:=hi_ (sweep_row HV.out HRo.out hlt (HGone.out hg));have HFr2:=hi_ (HFr.out.set (g:=g) (Or.inl rfl) j (.int .i64 (-1)));clear hg;go_wp2_with fail
    go_roundw
    case rel=>exact⟨j+1,by go_num,by omega,HFr2,HRo2⟩
    case measure=>simp[Go.RowKit.intOf];omega
  ·have hje:j=X.m.length:=by omega
   subst hje;have hnot:¬((X.m.length:Nat):Int)<((X.m.length:Nat):Int):=by omega
   have HX:=hi_ (HEnd.out wr HFr.out HRo.out);go_wp2_with fail
   refine bodyPost_ret (v:=.tuple #[.slice none 0 0,.bool true]) (by simp[results,Tryz.results24,go_sem]) rfl ⟨_,_,_,rfl,HX.out,rfl,rfl,rfl,by rw[HR1.out],by rw[HR2.out],by rw[HR1.out];exact RecsAt.nil _ _ _ _,fun _ _=>rfl⟩
theorem do8(w0 w:World)(X:Tw)(o:G.Op)(k:Nat)(h:TwIs w0 w X)(hF:Fit w0 X o k)(hk:o.kind % 10=8) :
  Calls Tryz.prog 24 #[.pointer (some ⟨X.tb,0,none⟩),opV o] w fun e w'=>DoIs w0 w X o e w':=by
 have hl:=h.pos_len;obtain⟨e1,e2,e3,n1,n2,n3,q1,q2⟩:=op_nums o hl hF.few hF.u8 X.m rfl;have HOV:=opV_eq o;rw[HOV.out];have ek:Int.tmod (o.kind:Int) 10=8:=by rw[show(10:Int)=((10:Nat):Int)from rfl,<-Int.ofNat_tmod,hk];rfl
 obtain⟨hb1,HO1,HN0⟩:=op_box w o;have H1:=hi_ (h.below hb1);have HB1:=hi_ hb1;obtain⟨g,cap,hv,_,hcap,_⟩:=h.toMid.cells hl;have HF:=hi_ hF;obtain⟨⟨ha1,ha2,ha3,hfw⟩,⟨wa1,wa2,wa3⟩,wn1,wc1,hn0,hn00,hn1,hn11⟩:=do_facts hF hl;clear hb1 HOV
 go_enter Tryz.func24,Tryz.ntmps24
 obtain⟨c0,c1,c2,hlt⟩:=cells3 H1.out.blk;obtain⟨o0,o1,o2,o3,o4,o5,o6,o7⟩:=cells8 HO1.out;have hlo:=HO1.out.lt;rw[hv]at c2;go_upto_region 2 with fail
 go_quiet (fail)
 rw[op_c rfl hfw];have H2:=hi_ (H1.out.below (bdN (Below.refl _ _) nq));have HO2:=hi_ (HO1.out.below (bdN (Below.refl _ _) nq));have HB2:=hi_ (bdN HB1.out nq);have HN2:=hi_ (HN0.out nq);clear HN0;clear H1 HO1 HB1 c0 c1 c2 hlt o0 o1 o2 o3 o4 o5 o6 o7 hlo;generalize (w.alloc (.cells #[.int .u8 (o.kind:Nat),.int .u8 (o.a:Nat),.int .u8 (o.b:Nat),.int .u8 (o.c:Nat),.string ⟨o.s.toArray⟩,.string ⟨o.t.toArray⟩,.int .i8 o.n,.int .i8 o.k] 65)).drewN nq=w2 at *;obtain⟨c0,c1,c2,hlt⟩:=cells3 H2.out.blk;obtain⟨o0,o1,o2,o3,o4,o5,o6,o7⟩:=cells8 HO2.out;have hlo:=HO2.out.lt;rw[hv]at c2;have QH:=hi_ (fun(i:Nat) W (hb:Below w2.heap.size w2 W)=>mHas X.M i W (H2.out.model.below hb));have HSm:=hi_ h.sim;have HV:=hi_ hv;have hst1:=step_8 (lim:=some 64) (m:=X.m) hk
 have hst2:=step_8 (lim:=none) (m:=X.M.m) (o:=o) hk;have hat:o.at_ X.M.m=o.at_ X.m:=by unfold Op.at_;rw[h.sim.len]
 rw[hat,<-h.sim.has]at hst2;obtain⟨a,ha⟩:∃a,a=o.at_ X.m:=⟨_,rfl⟩;rw[<-ha]at hst1 hst2 n1 ⊢;have hr1:(G.step (some 64) X.m o).1=[]:=by rw[hst1];split<;>rfl
 have HR1:=hi_ hr1;have hm1:(G.step (some 64) X.m o).2.2=if has X.m a=false then X.m else(copyOf X.m a (decide (0<o.n))).2:=by rw[hst1];split<;>rfl
 have hm2:(G.step none X.M.m o).2.2=if has X.m a=false then X.M.m else(copyOf X.M.m a (decide (0<o.n))).2:=by rw[hst2];split<;>rfl
 have QC:=hi_ (fun(deep:Bool) (hd:deep=decide (0<o.n))=>copy71 w0 w2 X a deep H2.out n1 hfw (fun i=>by have h1:=(hF.ok1 i);have hk2:=hF.k200;exact Nat.le_trans h1.1 (by omega)) (fun i=>by have h1:=(hF.ok2 i);have hk2:=hF.k200;exact Nat.le_trans h1.1 (by omega)) _ _ (by rw[hd];exact hm1) (by rw[hd];exact hm2) hF.keep);clear hst1 hst2 hat ha h hF e1 e2 e3 wa1 wa2 wa3 wn1 wc1 hn0 hn00 hn1 hn11 q1 q2 hr1 hm1 hm2;go_wp2_with fail
 refine(QH.out a w2 (Below.refl _ _)).mono ?_;rintro e w2' ⟨rfl,rfl⟩;generalize has X.M.m a=hh at *
 rcases Int.lt_or_le 0 o.n with hN|hN
 ·have Q:=hi_ (QC.out true (decide_eq_true hN).symm)
  clear QC QH;go_wp2_with fail
  refine Q.out.mono ?_;rintro e w3 ⟨X',rfl,hX,ht,hb,hs,hm,hM⟩;have HP:=hi_ (⟨hX,ht,hb,hs,hm,hM⟩:_/\_/\_/\_/\_/\_);clear hX ht hb hs hm hM Q;go_wp2_with fail
  refine bodyPost_ret (v:=.tuple #[.slice none 0 0,.bool true]) (by simp[results,Tryz.results24,go_sem]) rfl ⟨_,_,X',rfl,HP.out.1,HP.out.2.1,HP.out.2.2.1,HP.out.2.2.2.1,HP.out.2.2.2.2.1,HP.out.2.2.2.2.2,by rw[HR1.out];exact RecsAt.nil _ _ _ _,fun _ _=>rfl⟩
 ·have hN2:decide (0<o.n)=false:=decide_eq_false (by omega)
  have Q:=hi_ (QC.out false hN2.symm);clear QC QH hN;go_wp2_with fail
  refine Q.out.mono ?_;rintro e w3 ⟨X',rfl,hX,ht,hb,hs,hm,hM⟩;have HP:=hi_ (⟨hX,ht,hb,hs,hm,hM⟩:_/\_/\_/\_/\_/\_);clear hX ht hb hs hm hM Q;go_wp2_with fail
  refine bodyPost_ret (v:=.tuple #[.slice none 0 0,.bool true]) (by simp[results,Tryz.results24,go_sem]) rfl ⟨_,_,X',rfl,HP.out.1,HP.out.2.1,HP.out.2.2.1,HP.out.2.2.2.1,HP.out.2.2.2.2.1,HP.out.2.2.2.2.2,by rw[HR1.out];exact RecsAt.nil _ _ _ _,fun _ _=>rfl⟩
end A
end Go.Proofs.YtinphfpdfodkkaaGreatDoor
namespace Go.Proofs
open Go.Shelf
def Tryz.hand166_ren:Go.Shelf.Ren:=⟨fun|166=>53 | 240=>103 | 276=>143 | n=>n,fun|0=>0 | 3=>3 | 4=>4 | 5=>5 | 9=>9 | 20=>20 | 37=>118 | 70=>117 | 72=>120 | 75=>132 | 80=>136 | 164=>218 | n=>n,fun|n=>n⟩
theorem Tryz.hand166:Go.Proofs.Lays.n166 Tryz.prog Tryz.hand166_ren:={
 mixed:=by kernel_rfl
 f166:=Tryz.func53.trans (congrArg some (by kernel_rfl))
 f240:=Tryz.func103.trans (congrArg some (by kernel_rfl))
 f276:=Tryz.func143.trans (congrArg some (by kernel_rfl))
 t0:=Tryz.underlying0
 a0:=Tryz.isAgg0
 z0:=Tryz.sizeOf0
 v0:=Tryz.zeroValue0
 t3:=Tryz.underlying3
 a3:=Tryz.isAgg3
 z3:=Tryz.sizeOf3
 v3:=Tryz.zeroValue3
 t4:=Tryz.underlying4
 a4:=Tryz.isAgg4
 z4:=Tryz.sizeOf4
 v4:=Tryz.zeroValue4
 t9:=Tryz.underlying9
 a9:=Tryz.isAgg9
 z9:=Tryz.sizeOf9
 v9:=Tryz.zeroValue9
 t20:=Tryz.underlying20
 a20:=Tryz.isAgg20
 z20:=Tryz.sizeOf20
 v20:=Tryz.zeroValue20
 t37:=Tryz.underlying118
 a37:=Tryz.isAgg118
 z37:=Tryz.sizeOf118
 v37:=Tryz.zeroValue118
 t70:=Tryz.underlying117
 a70:=Tryz.isAgg117
 z70:=Tryz.sizeOf117
 v70:=Tryz.zeroValue117
 t72:=Tryz.underlying120
 a72:=Tryz.isAgg120
 z72:=Tryz.sizeOf120
 v72:=Tryz.zeroValue120
 t75:=Tryz.underlying132
 a75:=Tryz.isAgg132
 z75:=Tryz.sizeOf132
 v75:=Tryz.zeroValue132
 t164:=Tryz.underlying218
 a164:=Tryz.isAgg218
 z164:=Tryz.sizeOf218
 v164:=Tryz.zeroValue218 }
theorem Tryz.Builder_Extra_h166:Builder.Extra Tryz.prog Tryz.hand166_ren:={
 sizeBuilder:=by kernel_rfl
 liesBuilder:=by kernel_rfl
 t5:=Tryz.underlying5
 a5:=Tryz.isAgg5
 z5:=Tryz.sizeOf5
 v5:=Tryz.zeroValue5
 infoByte:=by kernel_rfl
 cellsByte:=by kernel_rfl
 sizeByte:=by kernel_rfl
 neB5:=by decide }
end Go.Proofs
namespace Go.Proofs.YtinphfpdfodkkaaGreatDoor
open Go.RowKit Go.Sort
namespace A
open H G
theorem before_(T:TMem)(m:Model)(pos:Nat->Nat)(a b:Nat×Nat)(w:World)(hT:TreeIs w T m pos)(hS:Small m)(ha:has m a.1=true)(hb:has m b.1=true)(oa:okPt m a.1 (a.2:Nat)=true)(ob:okPt m b.1 (b.2:Nat)=true)(ka:a.2<=1000000)(kb:b.2<=1000000)(ht:top m a.1=top m b.1) :
  Calls Tryz.prog 52 #[.pointer (some ⟨T.tb,0,none⟩),pointV (hd T pos a.1) (a.2:Nat),pointV (hd T pos b.1) (b.2:Nat)] w fun e w'=>e=.returned (.bool (before m a b))/\Below w.heap.size w w':=by
 have hb1:=((Below.refl w.heap.size w).alloc (Nat.le_refl _) (.cells #[.int .i64 (hd T pos a.1),.int .i64 (a.2:Nat)] 31)).alloc (by simp) (.cells #[.int .i64 (hd T pos b.1),.int .i64 (b.2:Nat)] 31);have hx0:=(Blk.new w #[.int .i64 (hd T pos a.1),.int .i64 (a.2:Nat)] 31).alloc (.cells #[.int .i64 (hd T pos b.1),.int .i64 (b.2:Nat)] 31);have hx1:=Blk.new (w.alloc (.cells #[.int .i64 (hd T pos a.1),.int .i64 (a.2:Nat)] 31)) #[.int .i64 (hd T pos b.1),.int .i64 (b.2:Nat)] 31;rw[World.size_alloc]at hx1;have HB1:=hi_ hb1;have Q:=hi_ (lcompare T m pos a b _ (hT.below hb1) hS ha hb oa ob ka kb);have hc:cmpRes m a b=(lcmp m a b,0):=if_neg (fun h=>h ht);rw[hc]at Q;have HR:Hid (before m a b=decide (lcmp m a b<0)):=hi_ rfl
 generalize before m a b=r at *;generalize lcmp m a b=lc at *;obtain⟨a0,a1⟩:=cells2 hx0;obtain⟨b0,b1⟩:=cells2 hx1;unfold pointV at *;generalize hd T pos a.1=za at *;generalize hd T pos b.1=zb at *;generalize ((a.2:Nat):Int)=ak at *;generalize ((b.2:Nat):Int)=bk at *;clear hT hS ha hb oa ob ka kb ht hb1 hc hx0 hx1
 go_enter Tryz.func52,Tryz.ntmps52
 go_wp2_with fail
 refine Q.out.mono ?_;rintro e w2 ⟨rfl,hb2⟩;have HB2:=bt_ HB1 hb2;clear hb2 Q a0 a1 b0 b1;go_wp2_with fail
 refine bodyPost_ret (v:=.bool (decide (lc<0))) (by simp[results,Tryz.results52,go_sem]) rfl ⟨by rw[HR.out],HB2.out⟩
end A
end Go.Proofs.YtinphfpdfodkkaaGreatDoor
namespace Go.Proofs.YtinphfpdfodkkaaGreatDoor
open Go.RowKit Go.Shelf
namespace A
open H G
noncomputable def txLoop:Code×Code:=match Tryz.f22.body with
 |some (.seq _ (.seq _ (.seq _ (.seq _ (.seq (.seq _ (.block _ (.rangeFunc _ _ a b))) _)))))=>(a,b)
 |_=>(.skip,.skip)
noncomputable def txRec (fn:FuncId) (ts:Array Value) (D:Nat) (st:LoopState) (pend:Option Code):Loop:=
 { state:=st,pending:=pend,fn,tmps:=ts,params:=#[29],assign:=txLoop.1,body:=txLoop.2,defers:=D }
def BldIs(bb:Nat)(bs:Bytes)(W:World):Prop:=Lib.IsBuilderF 120 5 bb bb (Lib.byteCells bs) W
theorem BldIs.lt{bb:Nat}{bs:Bytes}{W:World}(h:BldIs bb bs W):bb<W.heap.size:=h.elim Lib.BuilderAtF.lt Lib.BuilderAtF.lt
theorem BldIs.below{bb:Nat}{bs:Bytes}{W W':World}(h:BldIs bb bs W)(b:Below W.heap.size W W'):BldIs bb bs W':=by
 have one:∀p,Lib.BuilderAtF 120 5 bb bb p (Lib.byteCells bs) W->Lib.BuilderAtF 120 5 bb bb p (Lib.byteCells bs) W':=fun p ⟨h1,v,h2,h3,h4⟩=>
  ⟨h1,v,(b.block bb (lt_of_block h2)).trans h2,h3.kept (row:=none) ⟨b.os,b.tape,b.output,b.size,fun k hk _=>b.block k hk⟩ (Classical.em _),h4⟩
 exact h.imp (one _) (one _)
structure TxAt(W0:World)(fn:FuncId)(ts:Array Value)(l D:Nat)(acc:Nat->Bytes)(k:Nat)(W:World):Prop where
 bld:BldIs W0.heap.size (acc k) W
 L:W.heap[l]?=some (.loop (txRec fn ts D .ready none))
 K:W.heap[D]?=some (.deferred (some []))
 old:Below W0.heap.size W0 W
def txOwn(bb l:Nat)(W:World)(b:Nat):Prop:=b=l\/b=bb\/(bb<=b/\∃cur fz,W.heap[b]?=some (.cells cur 5 fz))
section
variable {W0:World} {fn:FuncId} {ts:Array Value} {l D:Nat} {acc:Nat->Bytes} {T:TMem} {m:Model} {pos:Nat->Nat}
theorem TxAt.go{k:Nat}{W W':World}(h:TxAt W0 fn ts l D acc k W)(b:Below W.heap.size W W'):TxAt W0 fn ts l D acc k W':=
 ⟨h.bld.below b,(b.block _ (lt_of_block h.L)).trans h.L,(b.block _ (lt_of_block h.K)).trans h.K,h.old.trans (b.mono h.old.size)⟩
theorem tx_keeps(hT:TreeIs W0 T m pos):Keeps2 (txOwn W0.heap.size l) (TxAt W0 fn ts l D acc) T m pos:=by
 refine⟨fun k W W' h b=>h.go b,fun k W h=>hT.below h.old,fun k W b h ho=>?_,fun k W W' b h hb' ho=>?_⟩
 ·rcases ho with e|e|⟨_,cur,fz,e⟩
  ·rw[e];exact lt_of_block h.L
  ·rw[e];exact h.bld.lt
  ·exact lt_of_block e
 ·rcases ho with e|e|⟨e0,cur,fz,e⟩
  ·exact Or.inl (Or.inl e)
  ·exact Or.inl (Or.inr (Or.inl e))
  ·rcases Nat.lt_or_ge b W.heap.size with h1|h1
   ·exact Or.inl (Or.inr (Or.inr ⟨e0,cur,fz,by rw[<-hb'.block b h1];exact e⟩))
   ·refine Or.inr ⟨h1,fun c2 f2 e2=>?_⟩
    rw[e]at e2;injection e2 with e2
    injection e2 with _ e3
    exact absurd e3 (by decide)
theorem tx_round{bb:Nat}{W w8 w9:World}(hl:l<W.heap.size)(hb:bb<W.heap.size)(f:H.Frame (fun k=>k=l) W w8)(hB:Below bb w8 w9)(hO:Lib.OthersKept 5 (some bb) w8 w9):Round (txOwn bb l) W w9:=by
 have hf8:∀i,i<W.heap.size->i≠l->w8.heap[i]?=W.heap[i]?:=fun i hi hn=>f.block i hi hn;refine⟨⟨hB.os.trans f.os,hB.tape.trans f.tape,hB.output.trans f.output,Nat.le_trans f.size hB.size,fun i hi hn=>?_⟩,fun b ho=>?_⟩
 ·have h1:i≠l:=fun e=>hn (Or.inl e)
  rw[<-hf8 i hi h1]
  rcases Nat.lt_or_ge i bb with h2|h2
  ·exact hB.block i h2
  ·obtain⟨o,ho⟩:∃o,w8.heap[i]?=some o:=⟨_,Array.getElem?_eq_getElem (Nat.lt_of_lt_of_le hi f.size)⟩
   rw[ho];refine hO i o ho (fun e=>hn (Or.inr (Or.inl (by injection e)))) (fun c fz e=>hn (Or.inr (Or.inr ⟨h2,c,fz,?_⟩)));rw[<-hf8 i hi h1,ho,e]
 ·rcases ho with e|e|⟨e0,cur,fz,e⟩
  ·exact Or.inl (Or.inl e)
  ·exact Or.inl (Or.inr (Or.inl e))
  ·rcases Nat.lt_or_ge b W.heap.size with h1|h1
   ·by_cases h2:b=l
    ·exact Or.inl (Or.inl h2)
    by_cases h3:b=bb
    ·exact Or.inl (Or.inr (Or.inl h3))
    refine Or.inl (Or.inr (Or.inr ⟨e0,?_⟩));rw[<-hf8 b h1 h2];obtain⟨o,ho⟩:∃o,w8.heap[b]?=some o:=⟨_,Array.getElem?_eq_getElem (Nat.lt_of_lt_of_le h1 f.size)⟩
    by_cases h4:∃c f2,o=.cells c 5 f2
    ·obtain⟨c,f2,h5⟩:=h4
     exact⟨c,f2,by rw[ho,h5]⟩
    ·have h6:=hO b o ho (fun h=>h3 (by injection h)) (fun c f2 h=>h4 ⟨c,f2,h⟩)
     rw[e]at h6;injection h6 with h6
     exact absurd ⟨cur,fz,h6.symm⟩ h4
   ·exact Or.inr h1
end
theorem BldIs.put{bb l:Nat}{bs:Bytes}{W:World}{r:Loop}(h:BldIs bb bs W)(hl:W.heap[l]?=some (.loop r))(x:Obj):BldIs bb bs (W.putObj l x):=by
 have one:∀p,Lib.BuilderAtF 120 5 bb bb p (Lib.byteCells bs) W->Lib.BuilderAtF 120 5 bb bb p (Lib.byteCells bs) (W.putObj l x):=fun p ⟨h1,v,h2,h3,h4⟩=>by
  have hn:bb≠l:=fun e=>by rw[e,hl]at h2;cases h2
  refine⟨h1,v,((grownBy_putObj_a W l x).block bb (lt_of_block h2) (fun e=>hn (by injection e))).trans h2,h3.kept (grownBy_putObj_a W l x) ?_,h4⟩
  rcases h3.2 with⟨e,_⟩|⟨g,cap,cur,fz,e,hb,hgg,_⟩
  ·left;rw[e];rfl
  ·right;rw[e];intro e2
   have e3:g=l:=by simpa[Value.ownBlock]using e2
   rw[e3,hl]at hgg
   cases hgg
 exact h.imp (one _) (one _)
theorem tx_end{W0 W W9:World}{fn:FuncId}{ts tmps:Array Value}{l D k:Nat}{acc:Nat->Bytes}(hL:W9.heap[l]?=some (.loop { txRec fn ts D .ready none with state:=.busy }))(hK:W9.heap[D]?=some (.deferred (some [])))(hDl:D≠l)(h0l:W0.heap.size<l)(hb:BldIs W0.heap.size (acc (k+1)) W9)(ho:Below W0.heap.size W0 W9)(hr:Round (txOwn W0.heap.size l) W W9) :
  roundPost Tryz.prog l (fun e W'=>e=.returned (.bool true)/\TxAt W0 fn ts l D acc (k+1) W'/\Round (txOwn W0.heap.size l) W W') .normal { tmps:=tmps,defers:=[] } W9:=by
 have hl9:=lt_of_block hL;have hend:=run_endRound (P:=Tryz.prog) none hL;have hFe:∀x,H.Frame (fun k=>k=l) W9 (W9.putObj l x):=fun x=>H.Frame.grown (S:=fun k=>k=l) (H.Frame.refl _ W9) (grownBy_putObj_a _ _ _) (fun k e=>by cases e;exact Or.inl rfl);have hBe:∀x,Below W0.heap.size W9 (W9.putObj l x):=fun x=>⟨(hFe x).os,(hFe x).tape,(hFe x).output,(hFe x).size,fun i hi=>(hFe x).block i (Nat.lt_of_lt_of_le hi ho.size) (fun e=>by omega)⟩;refine⟨_,_,hend,rfl,⟨hb.put hL _,World.putObj_heap_same hl9,((hFe _).block D (lt_of_block hK) hDl).trans hK,ho.trans (hBe _)⟩,hr.trans ⟨(hFe _).wide (fun i e=>Or.inl e),fun i hi=>?_⟩⟩
 rcases hi with e|e|⟨e0,cur,fz,e⟩
 ·exact Or.inl (Or.inl e)
 ·exact Or.inl (Or.inr (Or.inl e))
 ·by_cases h1:i=l
  ·exact Or.inl (Or.inl h1)
  rcases Nat.lt_or_ge i W9.heap.size with h2|h2
  ·exact Or.inl (Or.inr (Or.inr ⟨e0,cur,fz,by rw[<-(hFe _).block i h2 h1];exact e⟩))
  ·exact Or.inr h2
theorem tx_done{W0 W W2 w8 w9:World}{fn:FuncId}{ts tmps:Array Value}{l D k:Nat}{acc:Nat->Bytes}(hl:l<W.heap.size)(hbW:W0.heap.size<W.heap.size)(hL:W2.heap[l]?=some (.loop { txRec fn ts D .ready none with state:=.busy }))(hK:W2.heap[D]?=some (.deferred (some [])))(hF:H.Frame (fun k=>k=l) W W2)(hDl:D≠l)(h0l:W0.heap.size<l)(h0D:W0.heap.size<D)(ho:Below W0.heap.size W0 W2)
  (h8:Below W2.heap.size W2 w8) (hb:BldIs W0.heap.size (acc (k+1)) w9) (h9:Below W0.heap.size w8 w9) (hO:Lib.OthersKept 5 (some W0.heap.size) w8 w9) :
  roundPost Tryz.prog l (fun e W'=>e=.returned (.bool true)/\TxAt W0 fn ts l D acc (k+1) W'/\Round (txOwn W0.heap.size l) W W') .normal { tmps:=tmps,defers:=[] } w9:=
 tx_end (hO l _ ((h8.block l (lt_of_block hL)).trans hL) (fun e=>by injection e with e;omega) (fun _ _ e=>by cases e)) (hO D _ ((h8.block D (lt_of_block hK)).trans hK) (fun e=>by injection e with e;omega) (fun _ _ e=>by cases e)) hDl h0l hb
  ((ho.trans (h8.mono ho.size)).trans h9) (tx_round hl hbW (hF.below_ h8) h9 hO)
theorem write_(bb:Nat)(acc l:Bytes)(w:World)(h:BldIs bb acc w)(hl:acc.length+l.length<=1000000000)(hb:bb<=w.heap.size) :
  Calls Tryz.prog 53 #[.pointer (some ⟨bb,0,none⟩),.string ⟨l.toArray⟩] w fun e w'=>e=.returned (.tuple #[.int .i64 l.length,.nilIface])/\BldIs bb (acc++l) w'/\Below bb w w'/\Lib.OthersKept 5 (some bb) w w':=by
 have:=Any.Builder_WriteString_k Tryz.hand166 Tryz.Builder_Extra_h166 bb bb (Lib.byteCells acc) ⟨l.toArray⟩ w h (by rw[Lib.byteCells_length,T.bytes_size];omega) hb;refine this.mono fun e w' ⟨h1,h2,h3,h4⟩=>⟨?_,?_,h3,h4⟩
 ·rw[T.bytes_size]at h1;exact h1
 ·rw[Lib.strCells_eq,T.bytes_toList,<-Lib.byteCells_append]at h2
  exact Or.inr h2
end A
end Go.Proofs.YtinphfpdfodkkaaGreatDoor
namespace Go.Proofs.YtinphfpdfodkkaaGreatDoor
open Go.RowKit Go.Shelf
attribute [local go_sem] Oper.semAt_some
namespace A
open H G T
structure TxMem(W:World)(T:TMem)(za zi zb zj:Int)(b4 b8 g o:Nat):Prop where
 c4:W.cell? ⟨b4,0,none⟩=some (.pointer (some ⟨T.tb,0,none⟩))
 c8:W.cell? ⟨b8,0,none⟩=some (.pointer (some ⟨g,o,none⟩))
 r1:W.cell? ⟨g,o+1,none⟩=some (.int .i64 za)
 r2:W.cell? ⟨g,o+2,none⟩=some (.int .i64 zi)
 r3:W.cell? ⟨g,o+3,none⟩=some (.int .i64 zb)
 r4:W.cell? ⟨g,o+4,none⟩=some (.int .i64 zj)
 lt:b4<W.heap.size/\b8<W.heap.size/\g<W.heap.size
theorem TxMem.below{W W':World}{T:TMem}{za zi zb zj:Int}{b4 b8 g o:Nat}(h:TxMem W T za zi zb zj b4 b8 g o)(b:Below W.heap.size W W'):TxMem W' T za zi zb zj b4 b8 g o:=
 ⟨(b.cell (p:=⟨b4,0,none⟩) h.lt.1).trans h.c4,(b.cell (p:=⟨b8,0,none⟩) h.lt.2.1).trans h.c8,(b.cell (p:=⟨g,o+1,none⟩) h.lt.2.2).trans h.r1,(b.cell (p:=⟨g,o+2,none⟩) h.lt.2.2).trans h.r2,(b.cell (p:=⟨g,o+3,none⟩) h.lt.2.2).trans h.r3,(b.cell (p:=⟨g,o+4,none⟩) h.lt.2.2).trans h.r4,by have:=b.size;have:=h.lt;omega⟩
theorem txYield(mm:Nat)(W0:World)(T:TMem)(m:Model)(pos:Nat->Nat)(a b:Nat×Nat)(fn:FuncId)(b4 b8 g o l D:Nat)(x0 x1 x2 x3 x5 x6 x7 x10 x11 x12 x13 x14 x15 x16 x17 x18 x19 x20 x21 x22 x23 x24 x25 x26 x27 x28 x29 x30 x31 x32 x33 x34 x35 x36 x37 x38 x39 x40 x41 x42 x43 x44 x45 x46 x47 x48 x49 x50 x51 x52 x53 x54 x55 x56 x57 x58 x59 x60 x61 x62 x63 x64 x65 x66 x67 x68 x69 x70 x71 x72 x73 x74 x75 x76 x77 x78 x79 x80 x81 x82 x83 x84 x85 x86 x87 x88:Value)
  (hT:TreeIs W0 T m pos) (hS:Small m) (hTab:Tabs W0) (ha:has m a.1=true) (hbh:has m b.1=true) (oa:okPt m a.1 (a.2:Nat)=true) (ob:okPt m b.1 (b.2:Nat)=true) (ka:a.2<=1000000) (kb:b.2<=1000000) (hab:top m b.1=top m a.1)
  (hM:TxMem W0 T (hd T pos a.1) (a.2:Nat) (hd T pos b.1) (b.2:Nat) b4 b8 g o) (h0l:W0.heap.size<l) (h0D:W0.heap.size<D) (hDl:D≠l)
  (h:Nat) (hh:has m h=true) (ht:top m h=top m a.1) (acc:Nat->Bytes) (k:Nat) (W:World) (hA:TxAt W0 fn #[x0,x1,x2,x3,.pointer (some ⟨b4,0,none⟩),x5,x6,x7,.pointer (some ⟨b8,0,none⟩),.pointer (some ⟨W0.heap.size,0,none⟩),x10,x11,x12,x13,x14,x15,x16,x17,x18,x19,x20,x21,x22,x23,x24,x25,x26,x27,x28,x29,x30,x31,x32,x33,x34,x35,x36,x37,x38,x39,x40,x41,x42,x43,x44,x45,x46,x47,x48,x49,x50,x51,x52,x53,x54,x55,x56,x57,x58,x59,x60,x61,x62,x63,x64,x65,x66,x67,x68,x69,x70,x71,x72,x73,x74,x75,x76,x77,x78,x79,x80,x81,x82,x83,x84,x85,x86,x87,x88] l D acc k W) (hacc:acc (k+1)=acc k++pieceOf m a b h) (hlen:(acc (k+1)).length<=1000000000) :
  YieldAt Fence.wide mm Tryz.prog l #[.int .i64 (hd T pos h)] W fun e W'=>e=.returned (.bool true)/\TxAt W0 fn #[x0,x1,x2,x3,.pointer (some ⟨b4,0,none⟩),x5,x6,x7,.pointer (some ⟨b8,0,none⟩),.pointer (some ⟨W0.heap.size,0,none⟩),x10,x11,x12,x13,x14,x15,x16,x17,x18,x19,x20,x21,x22,x23,x24,x25,x26,x27,x28,x29,x30,x31,x32,x33,x34,x35,x36,x37,x38,x39,x40,x41,x42,x43,x44,x45,x46,x47,x48,x49,x50,x51,x52,x53,x54,x55,x56,x57,x58,x59,x60,x61,x62,x63,x64,x65,x66,x67,x68,x69,x70,x71,x72,x73,x74,x75,x76,x77,x78,x79,x80,x81,x82,x83,x84,x85,x86,x87,x88] l D acc (k+1) W'/\Round (txOwn W0.heap.size l) W W':=by
 refine⟨fn,#[x0,x1,x2,x3,.pointer (some ⟨b4,0,none⟩),x5,x6,x7,.pointer (some ⟨b8,0,none⟩),.pointer (some ⟨W0.heap.size,0,none⟩),x10,x11,x12,x13,x14,x15,x16,x17,x18,x19,x20,x21,x22,x23,x24,x25,x26,x27,x28,.int .i64 (hd T pos h),x30,x31,x32,x33,x34,x35,x36,x37,x38,x39,x40,x41,x42,x43,x44,x45,x46,x47,x48,x49,x50,x51,x52,x53,x54,x55,x56,x57,x58,x59,x60,x61,x62,x63,x64,x65,x66,x67,x68,x69,x70,x71,x72,x73,x74,x75,x76,x77,x78,x79,x80,x81,x82,x83,x84,x85,x86,x87,x88],txLoop.1,txLoop.2,by simpa[txRec]using run_yield (P:=Tryz.prog) (args:=#[.int .i64 (hd T pos h)]) hA.L rfl,roundIn_of_wpIn trivial ?_⟩;have hl:l<W.heap.size:=lt_of_block hA.L;have hbr:=run_beginRound (P:=Tryz.prog) hA.L rfl
 obtain⟨W2,hW2⟩:∃W2,W.putObj l (.loop { txRec fn #[x0,x1,x2,x3,.pointer (some ⟨b4,0,none⟩),x5,x6,x7,.pointer (some ⟨b8,0,none⟩),.pointer (some ⟨W0.heap.size,0,none⟩),x10,x11,x12,x13,x14,x15,x16,x17,x18,x19,x20,x21,x22,x23,x24,x25,x26,x27,x28,x29,x30,x31,x32,x33,x34,x35,x36,x37,x38,x39,x40,x41,x42,x43,x44,x45,x46,x47,x48,x49,x50,x51,x52,x53,x54,x55,x56,x57,x58,x59,x60,x61,x62,x63,x64,x65,x66,x67,x68,x69,x70,x71,x72,x73,x74,x75,x76,x77,x78,x79,x80,x81,x82,x83,x84,x85,x86,x87,x88] D .ready none with state:=.busy })=W2:=⟨_,rfl⟩;rw[hW2]at hbr;have hg2:W.grownBy W2 (some l):=by rw[<-hW2];exact grownBy_putObj_a _ _ _
 have hL2:W2.heap[l]?=some (.loop { txRec fn #[x0,x1,x2,x3,.pointer (some ⟨b4,0,none⟩),x5,x6,x7,.pointer (some ⟨b8,0,none⟩),.pointer (some ⟨W0.heap.size,0,none⟩),x10,x11,x12,x13,x14,x15,x16,x17,x18,x19,x20,x21,x22,x23,x24,x25,x26,x27,x28,x29,x30,x31,x32,x33,x34,x35,x36,x37,x38,x39,x40,x41,x42,x43,x44,x45,x46,x47,x48,x49,x50,x51,x52,x53,x54,x55,x56,x57,x58,x59,x60,x61,x62,x63,x64,x65,x66,x67,x68,x69,x70,x71,x72,x73,x74,x75,x76,x77,x78,x79,x80,x81,x82,x83,x84,x85,x86,x87,x88] D .ready none with state:=.busy }):=by rw[<-hW2];exact World.putObj_heap_same hl
 have hF2:H.Frame (fun k=>k=l) W W2:=H.Frame.grown (S:=fun k=>k=l) (H.Frame.refl _ W) hg2 (fun k e=>by cases e;exact Or.inl rfl);have hK2:W2.heap[D]?=some (.deferred (some [])):=(hF2.block D (lt_of_block hA.K) hDl).trans hA.K;have hbW2:Below W0.heap.size W W2:=⟨hF2.os,hF2.tape,hF2.output,hF2.size,fun k hk=>hF2.block k (Nat.lt_of_lt_of_le hk hA.old.size) (fun e=>by omega)⟩;have hb02:=hA.old.trans hbW2;have HB2:=hi_ hb02;have HBl:Hid (BldIs W0.heap.size (acc k) W2):=hi_ (by rw[<-hW2];exact hA.bld.put hA.L _);have hbW:=hA.bld.lt;have HA:=hi_ hA;have HL2:=hi_ hL2;have HK2:=hi_ hK2;have HF2:=hi_ hF2;have hM2:=hM.below hb02;have HM2:=hi_ hM2;have HT2:=hi_ (hT.below hb02);have HTab2:=hi_ (hTab.below hb02)
 have HBe:Hid (∀W3,Below W2.heap.size W2 W3->Calls Tryz.prog 52 #[.pointer (some ⟨T.tb,0,none⟩),.agg #[.int .i64 (hd T pos h),.int .i64 0],.agg #[.int .i64 (hd T pos a.1),.int .i64 (a.2:Nat)]] W3 fun e w'=>e=.returned (.bool (before m (h,0) a))/\Below W3.heap.size W3 w'):=hi_ (fun W3 hb=>before_ T m pos (h,0) a W3 (HT2.out.below hb) hS hh ha (okPt_of (Nat.zero_le _)) oa (Nat.zero_le _) ka ht)
 have HBf:Hid (∀W3,Below W2.heap.size W2 W3->Calls Tryz.prog 52 #[.pointer (some ⟨T.tb,0,none⟩),.agg #[.int .i64 (hd T pos b.1),.int .i64 (b.2:Nat)],.agg #[.int .i64 (hd T pos h),.int .i64 0]] W3 fun e w'=>e=.returned (.bool (before m b (h,0)))/\Below W3.heap.size W3 w'):=hi_ (fun W3 hb=>before_ T m pos b (h,0) W3 (HT2.out.below hb) hS hbh hh ob (okPt_of (Nat.zero_le _)) kb (Nat.zero_le _) (hab.trans ht.symm));have HLn:=hi_ (fun W3=>Len ⟨(nd m h).data.toArray⟩ W3 (by rw[H.bytes_size];have:=(hS h).2;omega));have HSl:=hi_ (fun x y W3 (hb:Below W2.heap.size W2 W3)=>Slice ⟨(nd m h).data.toArray⟩ x y W3 (by rw[H.bytes_size];exact(hS h).2) (HTab2.out.below hb));have HWr:=hi_ (fun x W3 (hb:Below W2.heap.size W2 W3)=>write_ W0.heap.size (acc k) x W3 (HBl.out.below hb))
 have QN:=hi_ (node_ T m pos h W2 HT2.out hh (hS h).1);have HKd:=hi_ (hT.fits.kind h hh);have HDa:=hi_ (hT.fits.data h hh);have s4:=hM2.c4;clear hW2 hg2 hF2 hL2 hK2 hbW2 hb02 hM2 hA hM;generalize T.sl (pos h)=nh at *;unfold txLoop Tryz.f22;dsimp only
 gi_wp2_with gi_round_op_a
 gi_wp2_with fail
 refine⟨trivial,fun h=>(by cases h),?_⟩;refine(CallsIn.inRound l (callsIn_wide.2 QN.out)).mono ?_;rintro e w3 ⟨v,rfl,hb3,hv3⟩;obtain⟨bo,bcap,rfl⟩:=AttrsAt.slice (own_base hv3);have HB3:=hi_ hb3;clear hb3 QN hv3;unfold nodeAgg
 by_cases h3:nh.kind=3
 ·have hk3:(((nh.kind:Nat):Int) != 3)=false:=by rw[h3];rfl
  have HAc:Hid (acc (k+1)=acc k++(if h≠a.1/\before m (h,0) a=true then[]else if h≠b.1/\before m b (h,0)=true then[]else sl (U.pts (nd m h).data) (if h=a.1 then a.2 else 0) (if h=b.1 then b.2 else(U.pts (nd m h).data).length))):=hi_ (by
   rw[hacc];unfold pieceOf;rw[if_neg (by rw[<-HKd.out];exact fun e=>e h3)])
  have HEa:=hi_ (fun e=>hd_inj HT2.out.fits hh ha e);have HEb:=hi_ (fun e=>hd_inj HT2.out.fits hh hbh e);rw[HDa.out];generalize ((nh.kind:Nat):Int)=kd at *;have HB4:=hi_ (HB3.out.alloc HB3.out.size (.cells #[.int .i64 kd,.string ⟨nh.name.toArray⟩,.slice bo (nd m h).attrs.length bcap,.string ⟨(nd m h).data.toArray⟩,.int .i64 nh.parent,.int .i64 nh.first,.int .i64 nh.last,.int .i64 nh.prev,.int .i64 nh.next] 126));have HN4:=hi_ (Blk.new w3 #[.int .i64 kd,.string ⟨nh.name.toArray⟩,.slice bo (nd m h).attrs.length bcap,.string ⟨(nd m h).data.toArray⟩,.int .i64 nh.parent,.int .i64 nh.first,.int .i64 nh.last,.int .i64 nh.prev,.int .i64 nh.next] 126)
  gi_wp2_with fail
  refine⟨trivial,fun h=>(by cases h),?_⟩;refine(CallsIn.inRound l (callsIn_wide.2 (HLn.out _))).mono ?_;rintro e w5 ⟨rfl,hb5⟩;have HB5:=bt_ HB4 hb5;have HN5:=hi_ (HN4.out.below hb5);have HM5:=hi_ (HM2.out.below HB5.out);obtain⟨s4,s8,s1,s2,s3,s5,_⟩:=HM5.out;obtain⟨⟨_,_,_,n3,_⟩,_⟩:=cells9 HN5.out;have n3l:=HN5.out.lt;clear hb5 HN4;generalize hza:hd T pos a.1=za at *;generalize hzb:hd T pos b.1=zb at *;generalize hzh:hd T pos h=zh at *;have HZa:=hi_ hza;have HZb:=hi_ hzb;have HZh:=hi_ hzh;clear hza hzb hzh
  by_cases ea:h=a.1
  ·have e1:(zh==za)=true:=by rw[<-HZa.out,<-HZh.out,ea];exact beq_self_eq_true _
   have HYa:=hi_ ea;clear ea
   by_cases eb:h=b.1
   ·have e2:(zh==zb)=true:=by rw[<-HZb.out,<-HZh.out,eb];exact beq_self_eq_true _
    have HAc2:Hid (acc (k+1)=acc k++U.sl (U.pts (nd m h).data) ((a.2:Nat):Int).toNat ((b.2:Nat):Int).toNat):=hi_ (by rw[HAc.out,if_neg (fun x=>x.1 HYa.out),if_pos HYa.out,if_neg (fun x=>x.1 eb),if_pos eb];rfl);clear eb
    gi_wp2_with fail
    refine⟨trivial,fun h=>(by cases h),?_⟩;refine(CallsIn.inRound l (callsIn_wide.2 (HSl.out _ _ w5 HB5.out))).mono ?_;rintro e w8 ⟨rfl,hb8⟩;have HB8:=bt_ HB5 hb8;clear hb8;have hsz:(acc k).length+(U.sl (U.pts (nd m h).data) ((a.2:Nat):Int).toNat ((b.2:Nat):Int).toNat).length<=1000000000:=by rw[<-List.length_append,<-HAc2.out];exact hlen
    gi_wp2_with fail
    refine⟨trivial,fun h=>(by cases h),?_⟩;refine(CallsIn.inRound l (callsIn_wide.2 (HWr.out _ w8 HB8.out hsz (Nat.le_trans (Nat.le_of_lt HBl.out.lt) HB8.out.size)))).mono ?_;rintro e w9 ⟨rfl,hbl9,hb9,hO9⟩
    gi_wp2_with fail
    refine tx_done hl hbW HL2.out HK2.out HF2.out hDl h0l h0D HB2.out HB8.out ?_ hb9 hO9;rw[HAc2.out];exact hbl9
   ·have e2:(zh==zb)=false:=beq_eq_false_iff_ne.2 (fun e=>eb (HEb.out e))
    have HNb:=hi_ eb;clear eb
    gi_wp2_with fail
    have HBd6:=hi_ (Below.refl w5.heap.size w5).drew;have HMd6:=hi_ (HM5.out.below HBd6.out);have HBx6:=bt_ HB5 HBd6.out;have HNx6:=hi_ (HN5.out.below HBd6.out);refine wpIn_region_flow (fun W=>TxMem W T za (a.2:Nat) zb (b.2:Nat) b4 b8 g o) 7 [(0,false),(1,false),(2,false),(3,false),(4,false),(5,false),(6,false)] (by kernel_rfl) (by kernel_rfl) (by kernel_rfl) (fun⟨_,_,hx⟩=>hx) HMd6.out ?_;change wpFlow _ _ _ _ _ _ _ (World.drew w5);clear HBd6;generalize World.drew w5=wd6 at *;iterate 7 (
     refine flow_get _ ?_ rfl (fun _ _ _ h=>h) (by rfl) ?_ ?_
     rotate_left
     focus (
      intro W' hS';obtain⟨s4,s8,s1,s2,s3,s5,_⟩:=hS';go_simp
      first|done|with_reducible rfl)
     simp only[Act.put,List.setIfInBounds_toArray,List.set_cons_zero,List.set_cons_succ])
    show wpList _ _ _ _ _ _;simp only[List.drop_succ_cons,List.drop_zero];go_wp2_with fail
    rename_i K hK
    refine(HBf.out wd6 HBx6.out).mono ?_;rintro e w6 ⟨rfl,hb6⟩;refine hK _ _ ?_;clear hK;clear K;show Exit.then _ _ Exit.normal _ _;have HB6:=bt_ HBx6 hb6;have HN6:=hi_ (HNx6.out.below hb6);have HM6:=hi_ (HMd6.out.below hb6);obtain⟨s4,s8,s1,s2,s3,s5,_⟩:=HM6.out;obtain⟨⟨_,_,_,n3,_⟩,_⟩:=cells9 HN6.out;have n3l:=HN6.out.lt;clear hb6 HMd6 HBx6 HNx6
    by_cases qb:before m b (h,0)=true
    ·have HAc2:Hid (acc (k+1)=acc k):=hi_ (by rw[HAc.out,if_neg (fun x=>x.1 HYa.out),if_pos HYa.out,if_pos ⟨HNb.out,qb⟩,List.append_nil])
     generalize before m b (h,0)=bb at *;subst qb
     gi_wp2_with fail
     refine tx_done hl hbW HL2.out HK2.out HF2.out hDl h0l h0D HB2.out HB6.out ?_ (Below.refl _ _) (Lib.OthersKept.refl _ _ _);rw[HAc2.out];exact HBl.out.below HB6.out
    ·have HAc2:Hid (acc (k+1)=acc k++U.sl (U.pts (nd m h).data) ((a.2:Nat):Int).toNat (((U.pts (nd m h).data).length:Nat):Int).toNat):=hi_ (by rw[HAc.out,if_neg (fun x=>x.1 HYa.out),if_pos HYa.out,if_neg (fun x=>qb x.2),if_neg HNb.out];rfl)
     have qb:=Bool.eq_false_iff.2 qb;generalize before m b (h,0)=bb at *;subst qb
     gi_wp2_with fail
     refine⟨trivial,fun h=>(by cases h),?_⟩;refine(CallsIn.inRound l (callsIn_wide.2 (HSl.out _ _ w6 HB6.out))).mono ?_;rintro e w8 ⟨rfl,hb8⟩;have HB8:=bt_ HB6 hb8;clear hb8;have hsz:(acc k).length+(U.sl (U.pts (nd m h).data) ((a.2:Nat):Int).toNat (((U.pts (nd m h).data).length:Nat):Int).toNat).length<=1000000000:=by rw[<-List.length_append,<-HAc2.out];exact hlen
     gi_wp2_with fail
     refine⟨trivial,fun h=>(by cases h),?_⟩;refine(CallsIn.inRound l (callsIn_wide.2 (HWr.out _ w8 HB8.out hsz (Nat.le_trans (Nat.le_of_lt HBl.out.lt) HB8.out.size)))).mono ?_;rintro e w9 ⟨rfl,hbl9,hb9,hO9⟩
     gi_wp2_with fail
     refine tx_done hl hbW HL2.out HK2.out HF2.out hDl h0l h0D HB2.out HB8.out ?_ hb9 hO9;rw[HAc2.out];exact hbl9
  ·have e1:(zh==za)=false:=beq_eq_false_iff_ne.2 (fun e=>ea (HEa.out e))
   have HNa:=hi_ ea;clear ea
   gi_wp2_with fail
   have HBd6:=hi_ (Below.refl w5.heap.size w5).drew;have HMd6:=hi_ (HM5.out.below HBd6.out);have HBx6:=bt_ HB5 HBd6.out;have HNx6:=hi_ (HN5.out.below HBd6.out);refine wpIn_region_flow (fun W=>TxMem W T za (a.2:Nat) zb (b.2:Nat) b4 b8 g o) 7 [(0,false),(1,false),(2,false),(3,false),(4,false),(5,false),(6,false)] (by kernel_rfl) (by kernel_rfl) (by kernel_rfl) (fun⟨_,_,hx⟩=>hx) HMd6.out ?_;change wpFlow _ _ _ _ _ _ _ (World.drew w5);clear HBd6;generalize World.drew w5=wd6 at *;iterate 7 (
    refine flow_get _ ?_ rfl (fun _ _ _ h=>h) (by rfl) ?_ ?_
    rotate_left
    focus (
     intro W' hS';obtain⟨s4,s8,s1,s2,s3,s5,_⟩:=hS';go_simp
     first|done|with_reducible rfl)
    simp only[Act.put,List.setIfInBounds_toArray,List.set_cons_zero,List.set_cons_succ])
   show wpList _ _ _ _ _ _;simp only[List.drop_succ_cons,List.drop_zero];go_wp2_with fail
   rename_i K hK
   refine(HBe.out wd6 HBx6.out).mono ?_;rintro e w6 ⟨rfl,hb6⟩;refine hK _ _ ?_;clear hK;clear K;show Exit.then _ _ Exit.normal _ _;have HB6:=bt_ HBx6 hb6;have HN6:=hi_ (HNx6.out.below hb6);have HM6:=hi_ (HMd6.out.below hb6);obtain⟨s4,s8,s1,s2,s3,s5,_⟩:=HM6.out;obtain⟨⟨_,_,_,n3,_⟩,_⟩:=cells9 HN6.out;have n3l:=HN6.out.lt;clear hb6 HMd6 HBx6 HNx6
   by_cases qa:before m (h,0) a=true
   ·have HAc2:Hid (acc (k+1)=acc k):=hi_ (by rw[HAc.out,if_pos ⟨HNa.out,qa⟩,List.append_nil])
    generalize before m (h,0) a=ba at *;subst qa
    gi_wp2_with fail
    refine tx_done hl hbW HL2.out HK2.out HF2.out hDl h0l h0D HB2.out HB6.out ?_ (Below.refl _ _) (Lib.OthersKept.refl _ _ _);rw[HAc2.out];exact HBl.out.below HB6.out
   ·have HQa:=hi_ qa
    have qa:=Bool.eq_false_iff.2 qa
    by_cases eb:h=b.1
    ·have e2:(zh==zb)=true:=by rw[<-HZb.out,<-HZh.out,eb];exact beq_self_eq_true _
     have HAc2:Hid (acc (k+1)=acc k++U.sl (U.pts (nd m h).data) (0:Int).toNat ((b.2:Nat):Int).toNat):=hi_ (by rw[HAc.out,if_neg (fun x=>HQa.out x.2),if_neg HNa.out,if_neg (fun x=>x.1 eb),if_pos eb];rfl);clear eb
     gi_wp2_with fail
     refine⟨trivial,fun h=>(by cases h),?_⟩;refine(CallsIn.inRound l (callsIn_wide.2 (HSl.out _ _ w6 HB6.out))).mono ?_;rintro e w8 ⟨rfl,hb8⟩;have HB8:=bt_ HB6 hb8;clear hb8;have hsz:(acc k).length+(U.sl (U.pts (nd m h).data) (0:Int).toNat ((b.2:Nat):Int).toNat).length<=1000000000:=by rw[<-List.length_append,<-HAc2.out];exact hlen
     gi_wp2_with fail
     refine⟨trivial,fun h=>(by cases h),?_⟩;refine(CallsIn.inRound l (callsIn_wide.2 (HWr.out _ w8 HB8.out hsz (Nat.le_trans (Nat.le_of_lt HBl.out.lt) HB8.out.size)))).mono ?_;rintro e w9 ⟨rfl,hbl9,hb9,hO9⟩
     gi_wp2_with fail
     refine tx_done hl hbW HL2.out HK2.out HF2.out hDl h0l h0D HB2.out HB8.out ?_ hb9 hO9;rw[HAc2.out];exact hbl9
    ·have e2:(zh==zb)=false:=beq_eq_false_iff_ne.2 (fun e=>eb (HEb.out e))
     have HNb:=hi_ eb;clear eb
     gi_wp2_with fail
     have HBd7:=hi_ (Below.refl w6.heap.size w6).drew;have HMd7:=hi_ (HM6.out.below HBd7.out);have HBx7:=bt_ HB6 HBd7.out;have HNx7:=hi_ (HN6.out.below HBd7.out);refine wpIn_region_flow (fun W=>TxMem W T za (a.2:Nat) zb (b.2:Nat) b4 b8 g o) 7 [(0,false),(1,false),(2,false),(3,false),(4,false),(5,false),(6,false)] (by kernel_rfl) (by kernel_rfl) (by kernel_rfl) (fun⟨_,_,hx⟩=>hx) HMd7.out ?_;change wpFlow _ _ _ _ _ _ _ (World.drew w6);clear HBd7;generalize World.drew w6=wd7 at *;iterate 7 (
      refine flow_get _ ?_ rfl (fun _ _ _ h=>h) (by rfl) ?_ ?_
      rotate_left
      focus (
       intro W' hS';obtain⟨s4,s8,s1,s2,s3,s5,_⟩:=hS';go_simp
       first|done|with_reducible rfl)
      simp only[Act.put,List.setIfInBounds_toArray,List.set_cons_zero,List.set_cons_succ])
     show wpList _ _ _ _ _ _;simp only[List.drop_succ_cons,List.drop_zero];go_wp2_with fail
     rename_i K hK
     refine(HBf.out wd7 HBx7.out).mono ?_;rintro e w7 ⟨rfl,hb7⟩;refine hK _ _ ?_;clear hK;clear K;show Exit.then _ _ Exit.normal _ _;have HB7:=bt_ HBx7 hb7;have HN7:=hi_ (HNx7.out.below hb7);have HM7:=hi_ (HMd7.out.below hb7);obtain⟨s4,s8,s1,s2,s3,s5,_⟩:=HM7.out;obtain⟨⟨_,_,_,n3,_⟩,_⟩:=cells9 HN7.out;have n3l:=HN7.out.lt;clear hb7 HMd7 HBx7 HNx7
     by_cases qb:before m b (h,0)=true
     ·have HAc2:Hid (acc (k+1)=acc k):=hi_ (by rw[HAc.out,if_neg (fun x=>HQa.out x.2),if_neg HNa.out,if_pos ⟨HNb.out,qb⟩,List.append_nil])
      generalize before m b (h,0)=bb at *;subst qb
      gi_wp2_with fail
      refine tx_done hl hbW HL2.out HK2.out HF2.out hDl h0l h0D HB2.out HB7.out ?_ (Below.refl _ _) (Lib.OthersKept.refl _ _ _);rw[HAc2.out];exact HBl.out.below HB7.out
     ·have HAc2:Hid (acc (k+1)=acc k++U.sl (U.pts (nd m h).data) (0:Int).toNat (((U.pts (nd m h).data).length:Nat):Int).toNat):=hi_ (by rw[HAc.out,if_neg (fun x=>HQa.out x.2),if_neg HNa.out,if_neg (fun x=>qb x.2),if_neg HNb.out];rfl)
      have qb:=Bool.eq_false_iff.2 qb;generalize before m b (h,0)=bb at *;subst qb
      gi_wp2_with fail
      refine⟨trivial,fun h=>(by cases h),?_⟩;refine(CallsIn.inRound l (callsIn_wide.2 (HSl.out _ _ w7 HB7.out))).mono ?_;rintro e w8 ⟨rfl,hb8⟩;have HB8:=bt_ HB7 hb8;clear hb8;have hsz:(acc k).length+(U.sl (U.pts (nd m h).data) (0:Int).toNat (((U.pts (nd m h).data).length:Nat):Int).toNat).length<=1000000000:=by rw[<-List.length_append,<-HAc2.out];exact hlen
      gi_wp2_with fail
      refine⟨trivial,fun h=>(by cases h),?_⟩;refine(CallsIn.inRound l (callsIn_wide.2 (HWr.out _ w8 HB8.out hsz (Nat.le_trans (Nat.le_of_lt HBl.out.lt) HB8.out.size)))).mono ?_;rintro e w9 ⟨rfl,hbl9,hb9,hO9⟩
      gi_wp2_with fail
      refine tx_done hl hbW HL2.out HK2.out HF2.out hDl h0l h0D HB2.out HB8.out ?_ hb9 hO9;rw[HAc2.out];exact hbl9
 ·have hk3:(((nh.kind:Nat):Int) != 3)=true:=by simpa using fun e=>h3 (by omega)
  have HAc:Hid (acc (k+1)=acc k):=hi_ (by rw[hacc];unfold pieceOf;rw[if_pos (by rw[<-HKd.out];exact h3),List.append_nil]);generalize ((nh.kind:Nat):Int)=kd at *;have HB4:=hi_ (HB3.out.alloc HB3.out.size (.cells #[.int .i64 kd,.string ⟨nh.name.toArray⟩,.slice bo (nd m h).attrs.length bcap,.string ⟨nh.data.toArray⟩,.int .i64 nh.parent,.int .i64 nh.first,.int .i64 nh.last,.int .i64 nh.prev,.int .i64 nh.next] 126))
  gi_wp2_with fail
  refine tx_done hl hbW HL2.out HK2.out HF2.out hDl h0l h0D HB2.out HB4.out ?_ (Below.refl _ _) (Lib.OthersKept.refl _ _ _);rw[HAc.out];exact HBl.out.below HB4.out
end A
end Go.Proofs.YtinphfpdfodkkaaGreatDoor
