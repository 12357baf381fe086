/- Texts of the proof. -/
import Derived.Test.YtinphfpdfodkkaaGreatDoorM05
import Derived.Test.YtinphfpdfodkkaaGreatDoorM02
import Derived.Maps.Own
import Derived.Maps.Views
import Derived.RangeFuncNested
import Derived.RangeFuncBound
import Derived.RangeFuncLeaves
import Derived.Shelf.Abstract
import Derived.Shelf.RegionOpen
import Derived.OwnWalkIn
import Derived.TacticsInMore
import Derived.LoopNIn
import Derived.LoopIn
import Derived.Deep.RegionWith
import Derived.Deep.RegionHeld3
set_option linter.unusedVariables false
set_option linter.unusedSimpArgs false
set_option maxHeartbeats 8000000
set_option maxRecDepth 100000
namespace Go.Proofs.YtinphfpdfodkkaaGreatDoor
section
open Go.RowKit Go.Sort
namespace A
open H G
theorem OwnH.form{T:TMem}{pos:Nat->Nat}{base:Nat}{w:World}{v:Value}{l:List Nat}(h:OwnH T pos base w v l):∃ao cap,v=.slice ao l.length cap/\∀i c,l[i]?=some c->∃g,ao=some ⟨g,0,none⟩/\g<w.heap.size/\base<=g/\w.cell? ⟨g,i,none⟩=some (.int .i64 (hd T pos c)):=by
 unfold OwnH at h;have h0:=h
 rcases h.2 with⟨h1,h2⟩|⟨g,cap,cur,h1,_⟩
 ·refine⟨none,0,by rw[h1,h2],fun i c hc=>?_⟩
  rw[List.length_eq_zero_iff.1 h2]at hc
  cases hc
 ·rw[h1]at h0
  refine⟨_,cap,h1,fun i c hc=>⟨g,rfl,?_,?_,?_⟩⟩
  ·exact(ownsRow_open h0).1
  ·exact(ownsRow_open h0).2.1
  ·have hi:i<l.length:=(List.getElem?_eq_some_iff.1 hc).1
   rw[((ownsRow_open h0).2.2.2 i (by unfold hints;rw[List.length_map];exact hi)).1];unfold hints;rw[List.getElem?_map,hc];rfl
theorem maxL_take{l:List Nat}{f:Nat->Nat}{i c:Nat}(h:l[i]?=some c):maxL ((l.take (i+1)).map f)=max (maxL ((l.take i).map f)) (f c):=by
 rw[List.take_add_one,h];unfold maxL;simp[List.foldl_append]
theorem heightN_le(m:Model):∀n h,heightN m n h<=n:=by
 intro n
 induction n with
 |zero=>intro h;exact Nat.le_refl 0
 |succ n ih=>
  intro h;show maxL ((nd m h).kids.map (heightN m n))+1<=n+1;have:maxL ((nd m h).kids.map (heightN m n))<=n:=maxL_le (fun x hx=>by
   obtain⟨c,_,rfl⟩:=List.mem_map.1 hx;exact ih c)
  omega
theorem height_le(m:Model)(h:Nat):height m h<=128:=heightN_le m 128 h
theorem maxL_few(m:Model)(l:List Nat):maxL (l.map (height m))<=128:=maxL_le (fun x hx=>by
 obtain⟨c,_,rfl⟩:=List.mem_map.1 hx;exact height_le m c)
theorem height_(T:TMem)(m:Model)(pos:Nat->Nat):∀(n j:Nat) (w:World),height m j<=n->TreeIs w T m pos->has m j=true →
  Calls Tryz.prog 116 #[.pointer (some ⟨T.tb,0,none⟩),.int .i64 (hd T pos j)] w fun e w'=>e=.returned (.int .i64 (height m j:Nat))/\Below w.heap.size w w':=by
 intro n
 induction n with
 |zero=>
  intro j w hn hT hj;rw[hT.fits.wf.height_eq j]at hn;omega
 |succ n ih=>
 intro j w hn hT hj;have hF:=hT.fits;have HT:=hi_ hT;have IH:=hi_ (fun(c:Nat) (hc:c∈(nd m j).kids) W (hb:Below w.heap.size w W)=>ih c W (by have:=hF.wf.height_kid hc;omega) (hT.below hb) (has_kid hF hj hc));have Q1:=hi_ (kids_ T m pos j w hT hj);have HE:=hi_ (hF.wf.height_eq j);have hkf:=kids_few hT.mem.few hF hj;clear ih hT hn
 go_enter Tryz.func116,Tryz.ntmps116
 go_wp2_with fail
 refine Q1.out.mono ?_;rintro e w1 ⟨v,rfl,hb1,ho1⟩;obtain⟨ao,cap,rfl,hcs⟩:=ho1.form;have HB1:=hi_ hb1;have HCS:=hi_ hcs;clear hb1 ho1 hcs Q1;generalize hl:(nd m j).kids=l at *;generalize hlen:l.length=len at *;have HLen:=hi_ hlen;clear hlen;go_wp2_with fail
 go_loopw [5,12] (fun v5 v12 wr=>∃i:Nat,v5=.int .i64 (maxL ((l.take i).map (height m)):Nat)/\v12=.int .i64 (i:Nat)/\i<=len/\Hid (Below w.heap.size w wr)/\Hid (Below w1.heap.size w1 wr)) (fun _ v12 _=>len-(intOfV v12).toNat)
 case atStart=>exact⟨0,rfl,rfl,by omega,HB1,hi_ (Below.refl _ _)⟩
 case round=>
  obtain⟨i,rfl,rfl,hi,HU,HU1⟩:=hrel;have hm1:=maxL_few m (l.take i);generalize hmx:maxL ((l.take i).map (height m))=mx at *;have HMX:=hi_ hmx;clear hmx HB1
  by_cases hq:i=len
  ·have hF2:Hid ((mx:Int)+1=(height m j:Nat)):=hi_ (by
    rw[HE.out,<-HMX.out,List.take_of_length_le (by rw[HLen.out];omega)];rfl)
   have hnl:¬((i:Int)<(len:Int)):=by omega
   go_wp2_with fail
   go_ret
   exact⟨ret_i64 (by have:=hF2.out;simpa using this),HU.out⟩
  ·have hil:i<l.length:=by rw[HLen.out];omega
   have hlt:(i:Int)<(len:Int):=by omega
   have hx:l[i]?=some l[i]:=List.getElem?_eq_getElem hil;obtain⟨g,rfl,hg1,hg2,hcell⟩:=HCS.out _ _ hx;have hcr:wr.cell? ⟨g,i,none⟩=some (.int .i64 (hd T pos l[i])):=(HU1.out.cell (p:=⟨g,i,none⟩) hg1).trans hcell;have hm2:=maxL_take (f:=height m) hx;have Q3:=hi_ (IH.out _ (List.mem_of_getElem? hx) wr HU.out);have hm3:=height_le m l[i];generalize l[i]=c at *;rw[HMX.out]at hm2;have HM2:=hi_ hm2;generalize height m c=hc at *;clear hx hm2 hil hcell;go_wp2_with fail
   refine Q3.out.mono ?_;rintro e3 w3 ⟨rfl,hb3⟩;have HU3:=bt_ HU hb3;have HU4:=bt_ HU1 hb3;go_wp2_with fail
   go_roundw
   case rel=>
    refine⟨i+1,?_,?_,by omega,HU3,HU4⟩
    ·rw[HM2.out]
     congr 1
     omega
    ·first|rfl|(congr 1)
   case measure=>
    show len-((i:Int)+1).toNat<len-((i:Int)).toNat;omega
end A
end
section
open Go.RowKit Go.Sort
namespace A
open H G
def newSlot(x:G.Node)(av:Value):Slot:=⟨true,x.kind,x.name,av,x.attrs,x.data,0,0,0,0,0⟩
structure Added(T T':TMem)(x:G.Node)(s:Nat):Prop where
 bs:T'.bs=T.bs
 st:T'.st=T.st
 root:T'.root=T.root
 live:T'.live=T.live+1
 len:s<T'.slots.length
 more:T.slots.length<=T'.slots.length
 one:∀t,t<T'.slots.length->t≠s->t<T.slots.length
 at_:∃av,T'.sl s=newSlot x av
 old:∀t,t<T.slots.length->t≠s->T'.sl t=T.sl t
 was:s<T.slots.length->(T.sl s).used=false
 frees:T'.frees.Nodup/\∀t,t∈T'.frees->t∈T.frees/\t≠s
def posA(m:Model)(pos:Nat->Nat)(s:Nat)(i:Nat):Nat:=if i=m.length then s else pos i
theorem posA_new(m:Model)(pos:Nat->Nat)(s:Nat):posA m pos s m.length=s:=if_pos rfl
theorem posA_old{m:Model}{pos:Nat->Nat}{s i:Nat}(h:i<m.length):posA m pos s i=pos i:=if_neg (by omega)
theorem has_app{m:Model}{x:G.Node}(i:Nat):has (m++[x]) i=if i=m.length then !x.gone else has m i:=by
 unfold has;rw[nd_app_cases]
 split<;>rfl
theorem prev_in{m:Model}(W:WF m){i y:Nat}(h:prevSib m i=some y):y<m.length:=by
 unfold prevSib at h
 cases hp:(nd m i).parent with
 |none=>rw[hp]at h;cases h
 |some p=>
  rw[hp]at h;have h:prevSib.prevAt2 (nd m p).kids ((nd m p).kids.idxOf i)=some y:=h;unfold prevSib.prevAt2 at h
  split at h
  ·cases h
  ·exact(W.kid p y (List.mem_of_getElem? h)).1
theorem next_in{m:Model}(W:WF m){i y:Nat}(h:nextSib m i=some y):y<m.length:=by
 unfold nextSib at h
 cases hp:(nd m i).parent with
 |none=>rw[hp]at h;cases h
 |some p=>
  rw[hp]at h;exact(W.kid p y (List.mem_of_getElem? h)).1
theorem prev_same{m m':Model}{i:Nat}(h1:(nd m' i).parent=(nd m i).parent)(h2:∀p,(nd m i).parent=some p->(nd m' p).kids=(nd m p).kids):prevSib m' i=prevSib m i:=by
 unfold prevSib;rw[h1]
 cases hp:(nd m i).parent with
 |none=>rfl
 |some p=>dsimp only;rw[h2 p hp]
theorem next_same{m m':Model}{i:Nat}(h1:(nd m' i).parent=(nd m i).parent)(h2:∀p,(nd m i).parent=some p->(nd m' p).kids=(nd m p).kids):nextSib m' i=nextSib m i:=by
 unfold nextSib;rw[h1]
 cases hp:(nd m i).parent with
 |none=>rfl
 |some p=>dsimp only;rw[h2 p hp]
section
variable {T T':TMem} {m:Model} {pos:Nat->Nat}
theorem hdO_posA(h1:T'.bs=T.bs)(h2:T'.st=T.st){s:Nat}{o:Option Nat}(ho:∀y,o=some y->y<m.length):hdO T' (posA m pos s) o=hdO T pos o:=by
 cases o with
 |none=>rfl
 |some y=>
  show handle T'.bs T'.st (posA m pos s y)=handle T.bs T.st (pos y);rw[h1,h2,posA_old (ho y rfl)]
theorem Fits.add(F:Fits T m pos){x:G.Node}(h1:x.parent=none)(h2:x.kids=[])(h3:2<=x.kind/\x.kind<=4)(hg:x.gone=false){s:Nat}(A:Added T T' x s):Fits T' (m++[x]) (posA m pos s):=by
 have W:=F.wf;have hH:∀i,has (m++[x]) i=true->i=m.length\/(i<m.length/\has m i=true):=by
  intro i hi;rw[has_app]at hi
  by_cases e:i=m.length
  ·exact Or.inl e
  ·rw[if_neg e]at hi
   exact Or.inr ⟨has_lt hi,hi⟩
 obtain⟨av,hav⟩:=A.at_;have hne:∀i,has m i=true->pos i≠s:=by
  intro i hi e;have h4:=F.lt i hi;have h5:=F.used i hi;rw[e]at h4 h5;rw[A.was h4]at h5
  cases h5
 have hold:∀i,has m i=true->T'.sl (posA m pos s i)=T.sl (pos i):=by
  intro i hi;rw[posA_old (has_lt hi)];exact A.old _ (F.lt i hi) (hne i hi)
 have hnew:T'.sl (posA m pos s m.length)=newSlot x av:=by rw[posA_new];exact hav
 have hx:nd (m++[x]) m.length=x:=nd_new;have key:∀{P:Nat->Prop},P m.length->(∀i,i<m.length->has m i=true->P i)->∀i,has (m++[x]) i=true->P i:=by
  intro P h4 h5 i hi
  rcases hH i hi with e|⟨e,e2⟩
  ·rw[e];exact h4
  ·exact h5 i e e2
 refine⟨W.make h1 h2 h3,?_,?_,?_,?_,?_,?_,?_,?_,?_,?_,?_,?_,?_,?_,?_,?_⟩
 ·exact key (by rw[posA_new];exact A.len) (fun i hi h=>by rw[posA_old hi];exact Nat.lt_of_lt_of_le (F.lt i h) A.more)
 ·exact key (by rw[hnew];rfl) (fun i hi h=>by rw[hold i h];exact F.used i h)
 ·exact key (by rw[hnew,hx];rfl) (fun i hi h=>by rw[hold i h,nd_app hi];exact F.kind i h)
 ·exact key (by rw[hnew,hx];rfl) (fun i hi h=>by rw[hold i h,nd_app hi];exact F.name i h)
 ·exact key (by rw[hnew,hx];rfl) (fun i hi h=>by rw[hold i h,nd_app hi];exact F.attrs i h)
 ·exact key (by rw[hnew,hx];rfl) (fun i hi h=>by rw[hold i h,nd_app hi];exact F.data i h)
 ·refine key (by rw[hnew,hx,h1];rfl) (fun i hi h=>?_)
  rw[hold i h,nd_app hi,hdO_posA A.bs A.st (fun y hy=>(W.lt hy).2)];exact F.parent i h
 ·refine key (by rw[hnew,hx,h2];rfl) (fun i hi h=>?_)
  rw[hold i h,nd_app hi,hdO_posA A.bs A.st (fun y hy=>(W.kid i y (List.mem_of_mem_head? hy)).1)];exact F.first i h
 ·refine key (by rw[hnew,hx,h2];rfl) (fun i hi h=>?_)
  rw[hold i h,nd_app hi,hdO_posA A.bs A.st (fun y hy=>(W.kid i y (List.mem_of_mem_getLast? hy)).1)];exact F.last i h
 ·refine key (by rw[hnew];unfold prevSib;rw[hx,h1];rfl) (fun i hi h=>?_)
  rw[hold i h,prev_same (m:=m) (by rw[nd_app hi]) (fun p hp=>by rw[nd_app (W.lt hp).2]),hdO_posA A.bs A.st (fun y hy=>prev_in W hy)];exact F.prev i h
 ·refine key (by rw[hnew];unfold nextSib;rw[hx,h1];rfl) (fun i hi h=>?_)
  rw[hold i h,next_same (m:=m) (by rw[nd_app hi]) (fun p hp=>by rw[nd_app (W.lt hp).2]),hdO_posA A.bs A.st (fun y hy=>next_in W hy)];exact F.next i h
 ·intro i j hi hj e
  rcases hH i hi with e1|⟨e1,e1'⟩
  ·rcases hH j hj with e2|⟨e2,e2'⟩
   ·rw[e1,e2]
   ·rw[e1,posA_new,posA_old e2]at e
    exact absurd e.symm (hne j e2')
  ·rcases hH j hj with e2|⟨e2,e2'⟩
   ·rw[e2,posA_new,posA_old e1]at e
    exact absurd e (hne i e1')
   ·rw[posA_old e1,posA_old e2]at e
    exact F.inj i j e1' e2' e
 ·intro t ht hu
  by_cases e:t=s
  ·exact⟨m.length,by rw[has_app,if_pos rfl,hg];rfl,by rw[posA_new,e]⟩
  ·have h4:=A.one t ht e
   rw[A.old t h4 e]at hu;obtain⟨i,hi,hp⟩:=F.onto t h4 hu;exact⟨i,by rw[has_app,if_neg (by have:=has_lt hi;omega)];exact hi,by rw[posA_old (has_lt hi)];exact hp⟩
 ·refine⟨A.frees.1,fun t ht=>?_⟩
  obtain⟨h4,h5⟩:=A.frees.2 t ht;obtain⟨h6,h7⟩:=F.frees.2 t h4;exact⟨Nat.lt_of_lt_of_le h6 A.more,by rw[A.old t h6 h5];exact h7⟩
 ·rw[A.live,F.live]
  have hl:(m++[x]).length=m.length+1:=by simp
  rw[hl,List.range_succ,List.filter_append,List.length_append];have e1:(List.range m.length).filter (has (m++[x]))=(List.range m.length).filter (has m):=by
   refine List.filter_congr fun i hi=>?_;rw[has_app,if_neg (by have:=List.mem_range.1 hi;omega)]
  have e2:has (m++[x]) m.length=true:=by rw[has_app,if_pos rfl,hg];rfl
  rw[e1,List.filter_cons_of_pos (by exact e2)];simp
 ·rw[A.root,F.root]
  unfold hd;rw[A.bs,A.st,posA_old W.doc.1]
structure Setted(T T':TMem)(m:Model)(pos:Nat->Nat)(h:Nat)(f:G.Node->G.Node):Prop where
 bs:T'.bs=T.bs
 st:T'.st=T.st
 len:T'.slots.length=T.slots.length
 frees:T'.frees=T.frees
 live:T'.live=T.live
 root:T'.root=T.root
 used:∀s,(T'.sl s).used=(T.sl s).used
 same:∀i,has m i=true->(T'.sl (pos i)).kind=(T.sl (pos i)).kind/\(T'.sl (pos i)).name=(T.sl (pos i)).name/\(T'.sl (pos i)).parent=(T.sl (pos i)).parent/\(T'.sl (pos i)).first=(T.sl (pos i)).first/\(T'.sl (pos i)).last=(T.sl (pos i)).last/\(T'.sl (pos i)).prev=(T.sl (pos i)).prev/\(T'.sl (pos i)).next=(T.sl (pos i)).next
 al:∀i,has m i=true->(T'.sl (pos i)).al=if i=h then(f (nd m h)).attrs else(T.sl (pos i)).al
 data:∀i,has m i=true->(T'.sl (pos i)).data=if i=h then(f (nd m h)).data else(T.sl (pos i)).data
theorem Fits.sett(F:Fits T m pos){h:Nat}(hh:has m h=true){f:G.Node->G.Node}(hf:∀x,(f x).kind=x.kind/\(f x).name=x.name/\(f x).parent=x.parent/\(f x).kids=x.kids/\(f x).gone=x.gone)(S:Setted T T' m pos h f):Fits T' (upd m h f) pos:=by
 have W:=F.wf;have hhl:=has_lt hh;have hnd:∀i,nd (upd m h f) i=if i=h then f (nd m i)else nd m i:=fun i=>nd_upd hhl i
 have hs:∀i,(nd (upd m h f) i).kind=(nd m i).kind/\(nd (upd m h f) i).name=(nd m i).name/\(nd (upd m h f) i).parent=(nd m i).parent/\(nd (upd m h f) i).kids=(nd m i).kids/\(nd (upd m h f) i).gone=(nd m i).gone:=by
  intro i;rw[hnd]
  split
  ·exact hf _
  ·exact⟨rfl,rfl,rfl,rfl,rfl⟩
 have hH:∀i,has (upd m h f) i=has m i:=fun i=>by unfold has;rw[(hs i).2.2.2.2]
 have e0:∀o,hdO T' pos o=hdO T pos o:=hdO_same S.bs S.st;have hl:=upd_len m h f;refine⟨W.same hl (fun i=>⟨(hs i).1,(hs i).2.2.1,(hs i).2.2.2.1,(hs i).2.2.2.2⟩),?_,?_,?_,?_,?_,?_,?_,?_,?_,?_,?_,?_,?_,?_,?_,?_⟩
 ·intro i hi;rw[hH]at hi;rw[S.len];exact F.lt i hi
 ·intro i hi;rw[hH]at hi;rw[S.used];exact F.used i hi
 ·intro i hi;rw[hH]at hi;rw[(S.same i hi).1,(hs i).1];exact F.kind i hi
 ·intro i hi;rw[hH]at hi;rw[(S.same i hi).2.1,(hs i).2.1];exact F.name i hi
 ·intro i hi
  rw[hH]at hi;rw[S.al i hi,hnd]
  by_cases e:i=h
  ·rw[if_pos e,if_pos e,e]
  ·rw[if_neg e,if_neg e];exact F.attrs i hi
 ·intro i hi
  rw[hH]at hi;rw[S.data i hi,hnd]
  by_cases e:i=h
  ·rw[if_pos e,if_pos e,e]
  ·rw[if_neg e,if_neg e];exact F.data i hi
 ·intro i hi;rw[hH]at hi;rw[(S.same i hi).2.2.1,(hs i).2.2.1,e0];exact F.parent i hi
 ·intro i hi;rw[hH]at hi;rw[(S.same i hi).2.2.2.1,(hs i).2.2.2.1,e0];exact F.first i hi
 ·intro i hi;rw[hH]at hi;rw[(S.same i hi).2.2.2.2.1,(hs i).2.2.2.1,e0];exact F.last i hi
 ·intro i hi;rw[hH]at hi;rw[(S.same i hi).2.2.2.2.2.1,prev_same (m:=m) (hs i).2.2.1 (fun p _=>(hs p).2.2.2.1),e0];exact F.prev i hi
 ·intro i hi;rw[hH]at hi;rw[(S.same i hi).2.2.2.2.2.2,next_same (m:=m) (hs i).2.2.1 (fun p _=>(hs p).2.2.2.1),e0];exact F.next i hi
 ·intro i j hi hj e;rw[hH]at hi hj;exact F.inj i j hi hj e
 ·intro s hs2 hu
  rw[S.len]at hs2;rw[S.used]at hu;obtain⟨i,hi,hp⟩:=F.onto s hs2 hu;exact⟨i,by rw[hH];exact hi,hp⟩
 ·rw[S.frees]
  refine⟨F.frees.1,fun t ht=>?_⟩;rw[S.len,S.used];exact F.frees.2 t ht
 ·rw[S.live,F.live,hl]
  congr 2
  exact List.filter_congr fun i _=>(hH i).symm
 ·rw[S.root,F.root]
  unfold hd;rw[S.bs,S.st]
structure Dropped(T T':TMem)(l:List Nat)(pos:Nat->Nat):Prop where
 bs:T'.bs=T.bs
 st:T'.st=T.st
 len:T'.slots.length=T.slots.length
 live:T'.live=T.live-(l.length:Nat)
 root:T'.root=T.root
 frees:T'.frees=T.frees++l.map pos
 old:∀s,s<T.slots.length->(∀i,i∈l->pos i≠s)->T'.sl s=T.sl s
 gone:∀i,i∈l->(T'.sl (pos i)).used=false
theorem count_out{α:Type}[DecidableEq α]{p q:α->Bool}:∀{l k:List α},l.Nodup->k.Nodup->(∀x,x∈k->x∈l/\p x=true)->(∀x,x∈l->q x=(p x && !k.contains x))->(l.filter q).length+k.length=(l.filter p).length:=by
 intro l k hl hk h1 h2;have e1:(l.filter p).Perm (l.filter q++k):=by
  refine(List.perm_ext_iff_of_nodup (hl.filter _) ?_).2 (fun x=>?_)
  ·rw[List.nodup_append]
   refine⟨hl.filter _,hk,fun a ha b hb e=>?_⟩;subst e;rw[List.mem_filter]at ha;rw[h2 a ha.1]at ha;have:k.contains a=true:=List.contains_iff_mem.2 hb;rw[this]at ha;simp at ha
  ·rw[List.mem_append,List.mem_filter,List.mem_filter]
   constructor
   ·rintro⟨ha,hb⟩
    by_cases e:x∈k
    ·exact Or.inr e
    ·refine Or.inl ⟨ha,?_⟩
     rw[h2 x ha,hb];simpa using e
   ·rintro(⟨ha,hb⟩|ha)
    ·rw[h2 x ha]at hb
     simp at hb;exact⟨ha,hb.1⟩
    ·exact h1 x ha
 have:=e1.length_eq;rw[List.length_append]at this;omega
theorem Fits.drop(F:Fits T m pos){h:Nat}(hh:has m h=true)(hr:(nd m h).parent=none)(h0:h≠0)(hw:(walk m h).Nodup)(hwh:∀i,i∈walk m h->has m i=true)(D:Dropped T T' (walk m h) pos):Fits T' (G.drop m h) pos:=by
 have W:=F.wf;have hl:=drop_len m h;have hnd:∀i,i<m.length->nd (G.drop m h) i={ nd m i with gone:=(nd m i).gone || (walk m h).contains i }:=fun i hi=>nd_drop i hi;have hH:∀i,has (G.drop m h) i=(has m i && !(walk m h).contains i):=by
  intro i
  rcases Nat.lt_or_ge i m.length with hi|hi
  ·unfold has
   rw[hnd i hi];show(!((nd m i).gone || _))=_;rw[Bool.not_or]
  ·unfold has
   rw[nd_out hi,nd_out (by rw[hl];exact hi)];rfl
 have hH2:∀{i},has (G.drop m h) i=true->has m i=true/\i∉walk m h:=by
  intro i hi;rw[hH,Bool.and_eq_true]at hi;exact⟨hi.1,by simpa using hi.2⟩
 have hold:∀{i},has (G.drop m h) i=true->T'.sl (pos i)=T.sl (pos i):=by
  intro i hi;obtain⟨h1,h2⟩:=hH2 hi;exact D.old _ (F.lt i h1) (fun j hj e=>h2 (by rw[<-F.inj j i (hwh j hj) h1 e];exact hj))
 have e0:∀o,hdO T' pos o=hdO T pos o:=hdO_same D.bs D.st;have hsh:∀i,(nd (G.drop m h) i).kind=(nd m i).kind/\(nd (G.drop m h) i).parent=(nd m i).parent/\(nd (G.drop m h) i).kids=(nd m i).kids/\(nd (G.drop m h) i).name=(nd m i).name/\(nd (G.drop m h) i).attrs=(nd m i).attrs/\(nd (G.drop m h) i).data=(nd m i).data:=by
  intro i
  rcases Nat.lt_or_ge i m.length with hi|hi
  ·rw[hnd i hi];exact⟨rfl,rfl,rfl,rfl,rfl,rfl⟩
  ·rw[nd_out hi,nd_out (by rw[hl];exact hi)];exact⟨rfl,rfl,rfl,rfl,rfl,rfl⟩
 refine⟨W.drop hr h0,?_,?_,?_,?_,?_,?_,?_,?_,?_,?_,?_,?_,?_,?_,?_,?_⟩
 ·intro i hi;rw[D.len];exact F.lt i (hH2 hi).1
 ·intro i hi;rw[hold hi];exact F.used i (hH2 hi).1
 ·intro i hi;rw[hold hi,(hsh i).1];exact F.kind i (hH2 hi).1
 ·intro i hi;rw[hold hi,(hsh i).2.2.2.1];exact F.name i (hH2 hi).1
 ·intro i hi;rw[hold hi,(hsh i).2.2.2.2.1];exact F.attrs i (hH2 hi).1
 ·intro i hi;rw[hold hi,(hsh i).2.2.2.2.2];exact F.data i (hH2 hi).1
 ·intro i hi;rw[hold hi,(hsh i).2.1,e0];exact F.parent i (hH2 hi).1
 ·intro i hi;rw[hold hi,(hsh i).2.2.1,e0];exact F.first i (hH2 hi).1
 ·intro i hi;rw[hold hi,(hsh i).2.2.1,e0];exact F.last i (hH2 hi).1
 ·intro i hi;rw[hold hi,prev_same (m:=m) (hsh i).2.1 (fun p _=>(hsh p).2.2.1),e0];exact F.prev i (hH2 hi).1
 ·intro i hi;rw[hold hi,next_same (m:=m) (hsh i).2.1 (fun p _=>(hsh p).2.2.1),e0];exact F.next i (hH2 hi).1
 ·intro i j hi hj e;exact F.inj i j (hH2 hi).1 (hH2 hj).1 e
 ·intro s hs hu
  rw[D.len]at hs;have hn:∀i,i∈walk m h->pos i≠s:=fun i hi e=>by
   have:=D.gone i hi;rw[e,hu]at this
   cases this
  rw[D.old s hs hn]at hu;obtain⟨i,hi,hp⟩:=F.onto s hs hu;refine⟨i,?_,hp⟩;rw[hH,hi,Bool.true_and];have:i∉walk m h:=fun hm=>hn i hm hp;simpa using this
 ·rw[D.frees]
  refine⟨?_,fun t ht=>?_⟩
  ·rw[List.nodup_append]
   refine⟨F.frees.1,?_,fun a ha b hb e=>?_⟩
   ·have key:∀l:List Nat,l.Nodup->(∀i,i∈l->has m i=true)->(l.map pos).Nodup:=by
     intro l
     induction l with
     |nil=>intro _ _;exact List.nodup_nil
     |cons a t ih=>
      intro hn ha;rw[List.map_cons,List.nodup_cons];rw[List.nodup_cons]at hn;refine⟨fun hm=>?_,ih hn.2 (fun i hi=>ha i (by simp[hi]))⟩;obtain⟨b,hb,e⟩:=List.mem_map.1 hm;have:=F.inj b a (ha b (by simp[hb])) (ha a (by simp)) e;rw[this]at hb;exact hn.1 hb
    exact key _ hw hwh
   ·obtain⟨i,hi,rfl⟩:=List.mem_map.1 hb
    subst e;have:=(F.frees.2 _ ha).2;rw[F.used i (hwh i hi)]at this
    cases this
  ·rcases List.mem_append.1 ht with h1|h1
   ·obtain⟨h2,h3⟩:=F.frees.2 t h1
    rw[D.len];refine⟨h2,?_⟩;rw[D.old t h2 (fun i hi e=>by rw[<-e,F.used i (hwh i hi)]at h3;cases h3)];exact h3
   ·obtain⟨i,hi,rfl⟩:=List.mem_map.1 h1
    rw[D.len];exact⟨F.lt i (hwh i hi),D.gone i hi⟩
 ·rw[D.live,F.live,hl]
  have:=count_out (p:=has m) (q:=has (G.drop m h)) (l:=List.range m.length) (k:=walk m h) List.nodup_range hw (fun x hx=>⟨List.mem_range.2 (has_lt (hwh x hx)),hwh x hx⟩) (fun x _=>hH x);omega
 ·rw[D.root,F.root]
  unfold hd;rw[D.bs,D.st]
theorem WF.walk_has(W:WF m)(h:Nat):has m h=true->∀i,i∈walk m h->has m i=true:=by
 refine W.down_ind (P:=fun h=>has m h=true->∀i,i∈walk m h->has m i=true) (fun h ih hh i hi=>?_) h;rw[W.walk_eq]at hi
 rcases List.mem_cons.1 hi with e|hi
 ·rw[e];exact hh
 ·obtain⟨k,hk,hki⟩:=List.mem_flatMap.1 hi
  refine ih k hk ?_ i hki;have:=W.gone k h (W.kid h k hk).2;unfold has at hh ⊢;rw[this];exact hh
theorem WF.walk_top(W:WF m){h i:Nat}(hi:i∈walk m h):contains m h i=true:=by
 rcases Nat.lt_or_ge i m.length with h1|h1
 ·exact(W.mem_walk h h1).1 hi
 ·have key:∀h,i∈walk m h->i=h\/i<m.length:=by
   intro h;refine W.down_ind (P:=fun h=>i∈walk m h->i=h\/i<m.length) (fun h ih hm=>?_) h;rw[W.walk_eq]at hm
   rcases List.mem_cons.1 hm with e|hm
   ·exact Or.inl e
   ·obtain⟨k,hk,hki⟩:=List.mem_flatMap.1 hm
    rcases ih k hk hki with e|e
    ·rw[e];exact Or.inr (W.kid h k hk).1
    ·exact Or.inr e
  rcases key h hi with e|e
  ·rw[e];exact W.contains_self h
  ·omega
theorem contains_depth(W:WF m){a i:Nat}:contains m a i=true->depth m a<=depth m i:=by
 refine W.up_ind (P:=fun i=>contains m a i=true->depth m a<=depth m i) (fun i hp hc=>?_) (fun i p hp ih hc=>?_) i
 ·rw[W.contains_root hp]at hc
  rw[beq_iff_eq.1 hc];exact Nat.le_refl _
 ·rw[W.contains_step hp]at hc
  rcases Bool.or_eq_true_iff.1 hc with e|e
  ·rw[beq_iff_eq.1 e];exact Nat.le_refl _
  ·have:=ih e
   rw[W.depth_step hp];omega
theorem contains_one(W:WF m){p a b i:Nat}(ha:(nd m a).parent=some p)(hb:(nd m b).parent=some p):contains m a i=true->contains m b i=true->a=b:=by
 refine W.up_ind (P:=fun i=>contains m a i=true->contains m b i=true->a=b) (fun i hp h1 h2=>?_) (fun i q hp ih h1 h2=>?_) i
 ·rw[W.contains_root hp]at h1 h2
  rw[beq_iff_eq.1 h1,beq_iff_eq.1 h2]
 ·rw[W.contains_step hp]at h1 h2
  have hda:=W.depth_step ha;have hdb:=W.depth_step hb;have hdi:=W.depth_step hp
  rcases Bool.or_eq_true_iff.1 h1 with e1|e1<;>rcases Bool.or_eq_true_iff.1 h2 with e2|e2
  ·rw[beq_iff_eq.1 e1,beq_iff_eq.1 e2]
  ·have e:=beq_iff_eq.1 e1
   rw[e,hp]at ha;injection ha with ha
   have:=contains_depth W e2;rw[ha]at this;omega
  ·have e:=beq_iff_eq.1 e2
   rw[e,hp]at hb;injection hb with hb
   have:=contains_depth W e1;rw[hb]at this;omega
  ·exact ih e1 e2
theorem nodup_flat{f:Nat->List Nat}:∀{l:List Nat},l.Nodup->(∀x,x∈l->(f x).Nodup)->(∀x y i,x∈l->y∈l->i∈f x->i∈f y->x=y)->(l.flatMap f).Nodup
 |[],_,_,_=>by simp
 |a :: t,hl,h1,h2=>by
  rw[List.nodup_cons]at hl;rw[List.flatMap_cons,List.nodup_append];refine⟨h1 a (by simp),nodup_flat hl.2 (fun x hx=>h1 x (by simp[hx])) (fun x y i hx hy=>h2 x y i (by simp[hx]) (by simp[hy])),fun i hi j hj e=>?_⟩;subst e;obtain⟨y,hy,hiy⟩:=List.mem_flatMap.1 hj;have:=h2 a y i (by simp) (by simp[hy]) hi hiy;subst this;exact hl.1 hy
theorem WF.walk_nodup(W:WF m)(h:Nat):(walk m h).Nodup:=by
 refine W.down_ind (P:=fun h=>(walk m h).Nodup) (fun h ih=>?_) h;rw[W.walk_eq,List.nodup_cons];refine⟨fun hm=>?_,nodup_flat (W.nodup h) ih (fun x y i hx hy hi hj=>contains_one W (W.kid h x hx).2 (W.kid h y hy).2 (WF.walk_top W hi) (WF.walk_top W hj))⟩;obtain⟨k,hk,hki⟩:=List.mem_flatMap.1 hm;have h1:=contains_depth W (WF.walk_top W hki);have h2:=W.depth_step (W.kid h k hk).2;omega
end
end A
end
section
open Go.RowKit Go.Sort
namespace R
open H G A
theorem mIndex_root(M:MMem)(i:Nat)(w:World)(h:ModelMem w M)(hi:i<M.nodes.length)(hp:(nd M.m i).parent=none):Calls Tryz.prog 123 #[.pointer (some ⟨M.mb,0,none⟩),.int .i64 i] w fun e w'=>e=.returned (.int .i64 (-1))/\w=w':=by
 obtain⟨c0,l0,l1⟩:=h.top;have k4:=(h.cell hi).2.2.2.2.1;rw[hp]at k4;have k4':w.cell? ⟨M.g,i*7+4,none⟩=some (.int .i64 (-1)):=k4;have n1:(i:Int)<(M.nodes.length:Int):=by omega
 clear k4 h hi hp
 go_enter Tryz.func123,Tryz.ntmps123
 go_wp2_with fail
 go_ret
 exact⟨rfl,rfl⟩
theorem mIndex(M:MMem)(i p:Nat)(w:World)(h:ModelMem w M)(W:WF M.m)(hi:i<M.nodes.length)(hp:(nd M.m i).parent=some p):Calls Tryz.prog 123 #[.pointer (some ⟨M.mb,0,none⟩),.int .i64 i] w fun e w'=>e=.returned (.int .i64 ((nd M.m p).kids.idxOf i:Nat))/\w=w':=by
 obtain⟨c0,l0,l1⟩:=h.top;have k4:=(h.cell hi).2.2.2.2.1;rw[hp]at k4;have k4':w.cell? ⟨M.g,i*7+4,none⟩=some (.int .i64 (p:Nat)):=k4;have n1:(i:Int)<(M.nodes.length:Int):=by omega
 have hpl:p<M.nodes.length:=by rw[<-M.m_len];exact(W.lt hp).2
 have n2:(p:Int)<(M.nodes.length:Int):=by omega
 have k5:=(h.cell hpl).2.2.2.2.2.1;obtain⟨ao,cap,hv,hc⟩:=OwnN.form (h.kidsRow hpl);rw[hv]at k5;have hmem:=(W.par i p hp).2;have hnd:=W.nodup p;have hfew:=h.few;have hlt:=List.idxOf_lt_length_of_mem hmem;have hat:=at_idx hmem;generalize hl:(nd M.m p).kids=l at *;have HIx:Hid (∀n,l[n]?=some i->l.idxOf i=n):=hi_ (fun n hn=>idx_nodup hnd hn);have HMem:=hi_ hmem;have HNd:=hi_ (fun n (hn:l[n]?=some i)=>idx_nodup hnd hn);generalize hix:l.idxOf i=ix at *;have HAt:=hi_ hat;have HC:=hi_ hc;have hln:l.length<=1000000:=by
  have h1:l.length<=(List.range M.nodes.length).length:=List.Nodup.length_le_of_subset hnd (fun x hx=>List.mem_range.2 (by rw[<-M.m_len];exact(W.kid p x (by rw[hl];exact hx)).1));rw[List.length_range]at h1;omega
 clear k4 h hp hmem hl hix hv hat hc hnd hi hpl
 go_enter Tryz.func123,Tryz.ntmps123
 go_wp2_with fail
 go_loopw [6] (fun v6 wr=>∃n:Nat,v6=.int .i64 (n:Nat)/\wr=w/\n<=ix) (fun v6 _=>l.length-(intOfV v6).toNat)
 case atStart=>exact⟨0,rfl,rfl,Nat.zero_le _⟩
 case round=>
  obtain⟨n,rfl,rfl,hn⟩:=hrel;have hnl:n<l.length:=by omega
  have hx:l[n]?=some l[n]:=List.getElem?_eq_getElem hnl;obtain⟨g,rfl,hg,hcell⟩:=HC.out _ _ hx;have HX:=hi_ hx;generalize l[n]=x at *;have n3:(n:Int)<(l.length:Int):=by omega
  by_cases e:x=i
  ·have z1:((x:Int)==(i:Int))=true:=by rw[e];exact beq_self_eq_true _
   have z2:(x:Int)=(i:Int):=by omega
   have HF:=hi_ (show n=ix by have:=HIx.out n (by rw[HX.out,e]);omega);clear e hx;go_wp2_with fail
   go_ret
   exact⟨ret_i64 (congrArg (fun n:Nat=>(n:Int)) HF.out),rfl⟩
  ·have z1:((x:Int)==(i:Int))=false:=beq_eq_false_iff_ne.2 (by omega)
   have z2:¬(x:Int)=(i:Int):=by omega
   have hne:n≠ix:=fun e2=>e (by have h1:=HX.out;rw[e2,HAt.out]at h1;injection h1 with h1;exact h1.symm);have HL:=hi_ (show n+1<=ix by omega);have wn:IntKind.i64.wrap ((n:Int)+1)=(n:Int)+1:=IntWalk.i64_in _ (by omega);clear e hx hne;go_wp2_with fail
   go_roundw
   case rel=>exact⟨n+1,by first|rfl|(congr 1),trivial,HL.out⟩
   case measure=>
    show l.length-((n:Int)+1).toNat<l.length-((n:Nat):Int).toNat;omega
end R
end
section
open Go.RowKit Go.Sort
namespace A
open H G
theorem own_mono{w:World}{B B':Nat}{e:TypeId}{size n:Nat}{v:Value}{xs:List Value}(h:w.ownsRow B e size v n xs)(hB:B'<=B):w.ownsRow B' e size v n xs:=by
 refine⟨h.1,?_⟩
 rcases h.2 with hn|⟨g,cap,cur,hv,hb,rest⟩
 ·exact Or.inl hn
 ·exact Or.inr ⟨g,cap,cur,hv,Nat.le_trans hB hb,rest⟩
theorem own_base{w:World}{B:Nat}{v:Value}{l:List (List UInt8×List UInt8)}(h:RecRow acells B 142 2 w v l):AttrsAt w v l:=own_mono h (Nat.zero_le _)
theorem own_not{w:World}{B:Nat}{e t:TypeId}{size n g:Nat}{v:Value}{xs:List Value}{cs:Array Value}(h:w.ownsRow B e size v n xs)(hb:Blk g cs t w)(hne:e≠t):v.ownBlock≠some g:=by
 intro hg;obtain⟨c,hc⟩:=own_type h hg;exact hne (blk_type hc hb)
theorem own_set9{w:World}{B:Nat}{e:TypeId}{size n g:Nat}{v:Value}{xs:List Value}(h:w.ownsRow B e size v n xs)(hn:v.ownBlock≠some g)(b0 b1 b2 b3 b4 b5 b6 b7 b8:Value):(set9 w g b0 b1 b2 b3 b4 b5 b6 b7 b8).ownsRow B e size v n xs:=
 own_far (own_far (own_far (own_far (own_far (own_far (own_far (own_far (own_far h hn 0 b0) hn 1 b1) hn 2 b2) hn 3 b3) hn 4 b4) hn 5 b5) hn 6 b6) hn 7 b7) hn 8 b8
def zeroNode:Array Value:=#[.int .i64 0,.string ⟨#[]⟩,.slice none 0 0,.string ⟨#[]⟩,.int .i64 0,.int .i64 0,.int .i64 0,.int .i64 0,.int .i64 0]
theorem get_none(T:TMem)(z:Int)(w:World)(hT:TreeMem w T)(hz:-9223372036854775808<=z)(hz2:z<=9223372036854775807)(hp:T.ptr 0 z=none) :
  Calls Tryz.prog 100 #[.pointer (some ⟨T.tb,0,none⟩),.int .i64 z] w fun e w'=>e=.returned (.tuple #[.agg zeroNode,.bool false])/\Below w.heap.size w w':=by
 have hB1:=(Below.refl w.heap.size w).alloc (Nat.le_refl _) (.cells #[.int .i64 0,.string ⟨#[]⟩,.slice none 0 0,.string ⟨#[]⟩,.int .i64 0,.int .i64 0,.int .i64 0,.int .i64 0,.int .i64 0] 126);have Q1:=hi_ (fun W (hW:Below w.heap.size w W)=>find T z W (hT.below hW) hz hz2);rw[hp]at Q1;unfold zeroNode;clear hT hp
 go_enter Tryz.func100,Tryz.ntmps100
 go_wp2_with fail
 refine(Q1.out _ hB1).mono ?_;rintro e w2 ⟨rfl,hb2⟩;have HB2:=hi_ (hB1.trans (hb2.mono hB1.size));have hb0:Blk w.heap.size #[.int .i64 0,.string ⟨#[]⟩,.slice none 0 0,.string ⟨#[]⟩,.int .i64 0,.int .i64 0,.int .i64 0,.int .i64 0,.int .i64 0] 126 w2:=(Blk.new w _ _).below hb2;have HB0:=hi_ hb0;have hlt2:w.heap.size<w2.heap.size:=hb0.lt;obtain⟨⟨k0,k1,k2,k3,k4,k5,k6,k7,k8⟩,⟨f0,f1,f2,f3,f4,f5,f6,f7,f8⟩⟩:=cells9 hb0;clear hb2 hb0;go_wp2_with fail
 have h9:=(Blk.set9 HB0.out (.int .i64 0) (.string ⟨#[]⟩) (.slice none 0 0) (.string ⟨#[]⟩) (.int .i64 0) (.int .i64 0) (.int .i64 0) (.int .i64 0) (.int .i64 0)).alloc (.cells #[.int .i64 0,.string ⟨#[]⟩,.slice none 0 0,.string ⟨#[]⟩,.int .i64 0,.int .i64 0,.int .i64 0,.int .i64 0,.int .i64 0] 126);have hb9:=below_set9 HB2.out (Nat.le_refl _) (.int .i64 0) (.string ⟨#[]⟩) (.slice none 0 0) (.string ⟨#[]⟩) (.int .i64 0) (.int .i64 0) (.int .i64 0) (.int .i64 0) (.int .i64 0);have hb9:=hb9.alloc hb9.size (.cells #[.int .i64 0,.string ⟨#[]⟩,.slice none 0 0,.string ⟨#[]⟩,.int .i64 0,.int .i64 0,.int .i64 0,.int .i64 0,.int .i64 0] 126);obtain⟨⟨l0,l1,l2,l3,l4,l5,l6,l7,l8⟩,_⟩:=cells9 h9
 change bodyPost _ _ _ _ _ (World.alloc (set9 w2 w.heap.size (.int .i64 0) (.string ⟨#[]⟩) (.slice none 0 0) (.string ⟨#[]⟩) (.int .i64 0) (.int .i64 0) (.int .i64 0) (.int .i64 0) (.int .i64 0)) (.cells #[.int .i64 0,.string ⟨#[]⟩,.slice none 0 0,.string ⟨#[]⟩,.int .i64 0,.int .i64 0,.int .i64 0,.int .i64 0,.int .i64 0] 126));generalize World.alloc _ _=W9 at *;refine bodyPost_ret (v:=.tuple #[.agg #[.int .i64 0,.string ⟨#[]⟩,.slice none 0 0,.string ⟨#[]⟩,.int .i64 0,.int .i64 0,.int .i64 0,.int .i64 0,.int .i64 0],.bool false]) (by simp[results,Tryz.results100,go_sem,l0,l1,l2,l3,l4,l5,l6,l7,l8]) rfl ⟨rfl,hb9⟩
theorem node_(T:TMem)(m:Model)(pos:Nat->Nat)(i:Nat)(w:World)(hT:TreeIs w T m pos)(hi:has m i=true)(hl:(nd m i).attrs.length<=100000) :
  Calls Tryz.prog 50 #[.pointer (some ⟨T.tb,0,none⟩),.int .i64 (hd T pos i)] w fun e w'=>∃v,e=.returned (.tuple #[nodeAgg (T.sl (pos i)) v,.bool true])/\Below w.heap.size w w'/\RecRow acells w.heap.size 142 2 w' v (nd m i).attrs:=by
 have hB1:=(Below.refl w.heap.size w).alloc (Nat.le_refl _) (.cells #[.int .i64 0,.string ⟨#[]⟩,.slice none 0 0,.string ⟨#[]⟩,.int .i64 0,.int .i64 0,.int .i64 0,.int .i64 0,.int .i64 0] 126);have Q1:=hi_ (fun W (hW:Below w.heap.size w W)=>get_ T m pos i W (hT.below hW) hi);have HA:=hi_ (fun W (hW:Below w.heap.size w W)=>(hT.below hW).attrs hi);rw[hT.fits.attrs i hi]at HA;obtain⟨ao,acap,hat⟩:=(hT.attrs hi).slice;unfold nodeAgg at Q1 ⊢;generalize T.sl (pos i)=r at *;rw[hat]at Q1 HA;generalize hd T pos i=z at *;generalize r.al.length=an at *;generalize (nd m i).attrs=al at *;clear hT hat
 go_enter Tryz.func50,Tryz.ntmps50
 go_wp2_with fail
 refine(Q1.out _ hB1).mono ?_;rintro e w2 ⟨rfl,hb2⟩;have HB2:=hi_ (hB1.trans (hb2.mono hB1.size));have HB0:=hi_ (show Blk w.heap.size #[.int .i64 0,.string ⟨#[]⟩,.slice none 0 0,.string ⟨#[]⟩,.int .i64 0,.int .i64 0,.int .i64 0,.int .i64 0,.int .i64 0] 126 w2 from (Blk.new w _ _).below hb2);clear hb2 Q1;go_wp2_with fail
 have HB3:=hi_ (HB2.out.alloc HB2.out.size (.cells #[.int .i64 (r.kind:Nat),.string ⟨r.name.toArray⟩,.slice ao an acap,.string ⟨r.data.toArray⟩,.int .i64 r.parent,.int .i64 r.first,.int .i64 r.last,.int .i64 r.prev,.int .i64 r.next] 126));have QC:=hi_ (clone_attrs _ al _ (HA.out _ HB3.out) hl);refine QC.out.mono ?_;rintro e w3 ⟨v,rfl,hr3,hb3⟩;obtain⟨bo,bcap,hv⟩:=AttrsAt.slice (own_base hr3);subst hv;have HB4:=bt_ HB3 hb3;have HR4:=hi_ (own_mono hr3 HB3.out.size);have HX0:=hi_ (show Blk w.heap.size #[.int .i64 0,.string ⟨#[]⟩,.slice none 0 0,.string ⟨#[]⟩,.int .i64 0,.int .i64 0,.int .i64 0,.int .i64 0,.int .i64 0] 126 w3 from (HB0.out.alloc _).below hb3)
 have HX1:=hi_ (show Blk w2.heap.size #[.int .i64 (r.kind:Nat),.string ⟨r.name.toArray⟩,.slice ao an acap,.string ⟨r.data.toArray⟩,.int .i64 r.parent,.int .i64 r.first,.int .i64 r.last,.int .i64 r.prev,.int .i64 r.next] 126 w3 from (Blk.new w2 _ _).below hb3);obtain⟨⟨k0,k1,k2,k3,k4,k5,k6,k7,k8⟩,⟨f0,f1,f2,f3,f4,f5,f6,f7,f8⟩⟩:=cells9 HX0.out;obtain⟨⟨c0,c1,c2,c3,c4,c5,c6,c7,c8⟩,⟨g0,g1,g2,g3,g4,g5,g6,g7,g8⟩⟩:=cells9 HX1.out;have hne:w.heap.size<w2.heap.size:=HB0.out.lt;generalize w2.heap.size=b6 at *;generalize hb4:w.heap.size=b4 at *;have HE4:=hi_ hb4;clear hb3 hr3 QC HB3 HB0 hb4;go_wp2_with fail
 have hn4:=own_not HR4.out HX0.out (by decide);have hn6:=own_not HR4.out HX1.out (by decide);have hR5:=own_set9 (own_far HR4.out hn6 2 (.slice bo al.length bcap)) hn4 (.int .i64 (r.kind:Nat)) (.string ⟨r.name.toArray⟩) (.slice bo al.length bcap) (.string ⟨r.data.toArray⟩) (.int .i64 r.parent) (.int .i64 r.first) (.int .i64 r.last) (.int .i64 r.prev) (.int .i64 r.next);have hb5:=below_set9 (bset (o:=2) (v:=.slice bo al.length bcap) HB4.out (Nat.le_of_lt hne)) (Nat.le_refl _) (.int .i64 (r.kind:Nat)) (.string ⟨r.name.toArray⟩) (.slice bo al.length bcap) (.string ⟨r.data.toArray⟩) (.int .i64 r.parent) (.int .i64 r.first) (.int .i64 r.last) (.int .i64 r.prev) (.int .i64 r.next)
 have h9:=Blk.set9 (HX0.out.far (Nat.ne_of_lt hne) 2 (.slice bo al.length bcap)) (.int .i64 (r.kind:Nat)) (.string ⟨r.name.toArray⟩) (.slice bo al.length bcap) (.string ⟨r.data.toArray⟩) (.int .i64 r.parent) (.int .i64 r.first) (.int .i64 r.last) (.int .i64 r.prev) (.int .i64 r.next);obtain⟨⟨l0,l1,l2,l3,l4,l5,l6,l7,l8⟩,_⟩:=cells9 h9;change bodyPost _ _ _ _ _ (set9 (w3.setCell ⟨b6,2,none⟩ (.slice bo al.length bcap)) b4 (.int .i64 (r.kind:Nat)) (.string ⟨r.name.toArray⟩) (.slice bo al.length bcap) (.string ⟨r.data.toArray⟩) (.int .i64 r.parent) (.int .i64 r.first) (.int .i64 r.last) (.int .i64 r.prev) (.int .i64 r.next));generalize set9 _ _ _ _ _ _ _ _ _ _ _=W9 at *;rw[<-HE4.out]at hR5 hb5
 refine bodyPost_ret (v:=.tuple #[.agg #[.int .i64 (r.kind:Nat),.string ⟨r.name.toArray⟩,.slice bo al.length bcap,.string ⟨r.data.toArray⟩,.int .i64 r.parent,.int .i64 r.first,.int .i64 r.last,.int .i64 r.prev,.int .i64 r.next],.bool true]) (by simp[results,Tryz.results50,go_sem,l0,l1,l2,l3,l4,l5,l6,l7,l8]) rfl ⟨_,rfl,hb5,hR5⟩
theorem node_none(T:TMem)(z:Int)(w:World)(hT:TreeMem w T)(hz:-9223372036854775808<=z)(hz2:z<=9223372036854775807)(hp:T.ptr 0 z=none) :
  Calls Tryz.prog 50 #[.pointer (some ⟨T.tb,0,none⟩),.int .i64 z] w fun e w'=>e=.returned (.tuple #[.agg zeroNode,.bool false])/\Below w.heap.size w w':=by
 have hB1:=(Below.refl w.heap.size w).alloc (Nat.le_refl _) (.cells #[.int .i64 0,.string ⟨#[]⟩,.slice none 0 0,.string ⟨#[]⟩,.int .i64 0,.int .i64 0,.int .i64 0,.int .i64 0,.int .i64 0] 126);have Q1:=hi_ (fun W (hW:Below w.heap.size w W)=>get_none T z W (hT.below hW) hz hz2 hp);unfold zeroNode at *;clear hT hp
 go_enter Tryz.func50,Tryz.ntmps50
 go_wp2_with fail
 refine(Q1.out _ hB1).mono ?_;rintro e w2 ⟨rfl,hb2⟩;have HB2:=hi_ (hB1.trans (hb2.mono hB1.size));have HB0:=hi_ (show Blk w.heap.size #[.int .i64 0,.string ⟨#[]⟩,.slice none 0 0,.string ⟨#[]⟩,.int .i64 0,.int .i64 0,.int .i64 0,.int .i64 0,.int .i64 0] 126 w2 from (Blk.new w _ _).below hb2);clear hb2 Q1;go_wp2_with fail
 refine(clone_nil _).mono ?_;rintro e w3 ⟨rfl,rfl⟩;obtain⟨⟨k0,k1,k2,k3,k4,k5,k6,k7,k8⟩,⟨f0,f1,f2,f3,f4,f5,f6,f7,f8⟩⟩:=cells9 HB0.out;have hlt:w.heap.size<w2.heap.size:=HB0.out.lt;go_wp2_with fail
 have h9:=(Blk.set9 HB0.out (.int .i64 0) (.string ⟨#[]⟩) (.slice none 0 0) (.string ⟨#[]⟩) (.int .i64 0) (.int .i64 0) (.int .i64 0) (.int .i64 0) (.int .i64 0)).alloc (.cells #[.int .i64 0,.string ⟨#[]⟩,.slice none 0 0,.string ⟨#[]⟩,.int .i64 0,.int .i64 0,.int .i64 0,.int .i64 0,.int .i64 0] 126);have hb9:=below_set9 HB2.out (Nat.le_refl _) (.int .i64 0) (.string ⟨#[]⟩) (.slice none 0 0) (.string ⟨#[]⟩) (.int .i64 0) (.int .i64 0) (.int .i64 0) (.int .i64 0) (.int .i64 0);have hb9:=hb9.alloc hb9.size (.cells #[.int .i64 0,.string ⟨#[]⟩,.slice none 0 0,.string ⟨#[]⟩,.int .i64 0,.int .i64 0,.int .i64 0,.int .i64 0,.int .i64 0] 126);obtain⟨⟨l0,l1,l2,l3,l4,l5,l6,l7,l8⟩,_⟩:=cells9 h9
 change bodyPost _ _ _ _ _ (World.alloc (set9 w2 w.heap.size (.int .i64 0) (.string ⟨#[]⟩) (.slice none 0 0) (.string ⟨#[]⟩) (.int .i64 0) (.int .i64 0) (.int .i64 0) (.int .i64 0) (.int .i64 0)) (.cells #[.int .i64 0,.string ⟨#[]⟩,.slice none 0 0,.string ⟨#[]⟩,.int .i64 0,.int .i64 0,.int .i64 0,.int .i64 0,.int .i64 0] 126));generalize World.alloc _ _=W9 at *;refine bodyPost_ret (v:=.tuple #[.agg #[.int .i64 0,.string ⟨#[]⟩,.slice none 0 0,.string ⟨#[]⟩,.int .i64 0,.int .i64 0,.int .i64 0,.int .i64 0,.int .i64 0],.bool false]) (by simp[results,Tryz.results50,go_sem,l0,l1,l2,l3,l4,l5,l6,l7,l8]) rfl ⟨rfl,hb9⟩
def sgn(a b:Int):Int:=if a<b then -1 else if b<a then 1 else 0
theorem isNaN(a:Int)(w:World):Calls Tryz.prog 95 #[.int .i64 a] w fun e w'=>e=.returned (.bool false)/\w=w':=by
 go_enter Tryz.func95,Tryz.ntmps95
 go_wp2_with fail
 go_ret
 exact⟨ret_bool (by simp),rfl⟩
theorem cmpInt(a b:Int)(w:World):Calls Tryz.prog 39 #[.int .i64 a,.int .i64 b] w fun e w'=>e=.returned (.int .i64 (sgn a b))/\w=w':=by
 have Q1:=hi_ (isNaN a w);have Q2:=hi_ (isNaN b w);have HS:Hid (sgn a b=if a<b then -1 else if b<a then 1 else 0):=hi_ rfl;generalize sgn a b=s at *
 go_enter Tryz.func39,Tryz.ntmps39
 go_wp2_with fail
 refine Q1.out.mono ?_;rintro e w1 ⟨rfl,rfl⟩;go_wp2_with fail
 refine Q2.out.mono ?_;rintro e w1 ⟨rfl,rfl⟩
 by_cases h1:a<b
 ·go_wp2_with fail
  go_ret
  exact⟨ret_i64 (a:=-1) (by rw[HS.out,if_pos h1]),rfl⟩
 ·by_cases h2:b<a
  ·go_wp2_with fail
   go_ret
   exact⟨ret_i64 (a:=1) (by rw[HS.out,if_neg (by omega),if_pos h2]),rfl⟩
  ·go_wp2_with fail
   go_ret
   exact⟨ret_i64 (a:=0) (by rw[HS.out,if_neg (by omega),if_neg (by omega)]),rfl⟩
theorem cmpL_drop{x y:List Nat}{i:Nat}(h:∀k,k<i->x[k]?=y[k]?)(hx:i<=x.length)(hy:i<=y.length):cmpL x y=cmpL (x.drop i) (y.drop i):=by
 have e:x.take i=y.take i:=by
  apply List.ext_getElem?;intro k;rw[List.getElem?_take,List.getElem?_take]
  by_cases hk:k<i
  ·rw[if_pos hk,if_pos hk,h k hk]
  ·rw[if_neg hk,if_neg hk]
 calc cmpL x y=cmpL (x.take i++x.drop i) (y.take i++y.drop i):=by rw[List.take_append_drop,List.take_append_drop]
  _=_:=by rw[e,cmpL_pre]
theorem drop_at{x:List Nat}{i a:Nat}(h:x[i]?=some a):x.drop i=a :: x.drop (i+1):=by
 have hi:i<x.length:=by
  rcases Nat.lt_or_ge i x.length with h2|h2
  ·exact h2
  ·rw[List.getElem?_eq_none h2]at h;cases h
 rw[List.drop_eq_getElem_cons hi]
 congr 1
 rw[List.getElem?_eq_getElem hi]at h;injection h
theorem compareN{B1 B2:Nat}(v1 v2:Value)(x y:List Nat)(w:World)(h1:OwnN B1 w v1 x)(h2:OwnN B2 w v2 y)(hx:x.length<=1000000)(hy:y.length<=1000000) :
  Calls Tryz.prog 96 #[v1,v2] w fun e w'=>e=.returned (.int .i64 (cmpL x y))/\w=w':=by
 obtain⟨ao1,cap1,rfl,hc1⟩:=R.OwnN.form h1;obtain⟨ao2,cap2,rfl,hc2⟩:=R.OwnN.form h2;have HC1:=hi_ hc1;have HC2:=hi_ hc2;have QC:=hi_ (fun a b=>cmpInt a b w);have HG:Hid (cmpL x y=cmpL x y):=hi_ rfl;generalize hz:cmpL x y=z at *;have HZ:=hi_ hz;generalize hlx:x.length=lx at *;generalize hly:y.length=ly at *;have HX:=hi_ hlx;have HY:=hi_ hly;clear h1 h2 hc1 hc2 hz hlx hly HG
 go_enter Tryz.func96,Tryz.ntmps96
 go_wp2_with fail
 go_loopw [11] (fun v11 wr=>∃i:Nat,v11=.int .i64 (i:Nat)/\wr=w/\i<=lx/\i<=ly/\Hid (∀k,k<i->x[k]?=y[k]?)) (fun v11 _=>lx-(intOfV v11).toNat)
 case atStart=>exact⟨0,rfl,rfl,Nat.zero_le _,Nat.zero_le _,hi_ (fun k hk=>by omega)⟩
 case round=>
  obtain⟨i,rfl,rfl,hi1,hi2,HE⟩:=hrel;have HD:=hi_ (cmpL_drop HE.out (by rw[HX.out];exact hi1) (by rw[HY.out];exact hi2))
  by_cases e1:i=lx
  ·have n1:¬((i:Int)<(lx:Int)):=by omega
   by_cases e2:lx<ly
   ·have n2:((lx:Int)<(ly:Int)):=by omega
    go_wp2_with fail
    go_ret
    refine⟨ret_i64 (a:=-1) ?_,rfl⟩;rw[<-HZ.out,HD.out,List.drop_of_length_le (l:=x) (by rw[HX.out];omega)]
    cases hd:y.drop i with
    |nil=>have:=congrArg List.length hd;rw[List.length_drop,HY.out]at this;simp at this;omega
    |cons b t=>rfl
   ·have n2:¬((lx:Int)<(ly:Int)):=by omega
    go_wp2_with fail
    go_ret
    refine⟨ret_i64 (a:=0) ?_,rfl⟩;rw[<-HZ.out,HD.out,List.drop_of_length_le (l:=x) (by rw[HX.out];omega),List.drop_of_length_le (l:=y) (by rw[HY.out];omega)];rfl
  ·have n1:((i:Int)<(lx:Int)):=by omega
   have hil:i<x.length:=by rw[HX.out];omega
   have hx1:x[i]?=some x[i]:=List.getElem?_eq_getElem hil;obtain⟨g1,rfl,hg1,c1⟩:=HC1.out _ _ hx1;have HD1:=hi_ (drop_at hx1);generalize x[i]=a at *;clear hil
   by_cases e2:i=ly
   ·have n2:((ly:Int)<=(i:Int)):=by omega
    have HQ:Hid (z=1):=hi_ (by rw[<-HZ.out,HD.out,HD1.out,List.drop_of_length_le (l:=y) (by rw[HY.out];omega)];rfl);clear hx1 e2;go_wp2_with fail
    go_ret
    exact⟨ret_i64 (a:=1) HQ.out.symm,rfl⟩
   ·have n2:¬((ly:Int)<=(i:Int)):=by omega
    have n3:((i:Int)<(ly:Int)):=by omega
    have hjl:i<y.length:=by rw[HY.out];omega
    have hy1:y[i]?=some y[i]:=List.getElem?_eq_getElem hjl;obtain⟨g2,rfl,hg2,c2⟩:=HC2.out _ _ hy1;have HD2:=hi_ (drop_at hy1);generalize y[i]=b at *;clear hjl;have HH1:=hi_ hx1;have HH2:=hi_ hy1;have HQ:Hid (z=if a<b then -1 else if b<a then 1 else cmpL (x.drop (i+1)) (y.drop (i+1))):=hi_ (by rw[<-HZ.out,HD.out,HD1.out,HD2.out,cmpL]);have Q3:=hi_ (QC.out a b);unfold sgn at Q3;clear hx1 hy1
    by_cases l1:a<b
    ·rw[if_pos (by omega)]at Q3
     go_wp2_with fail
     refine Q3.out.mono ?_;rintro e w1 ⟨rfl,rfl⟩;go_wp2_with fail
     go_ret
     exact⟨ret_i64 (a:=-1) (by rw[HQ.out,if_pos l1]),rfl⟩
    ·by_cases l2:b<a
     ·rw[if_neg (by omega),if_pos (by omega)]at Q3
      go_wp2_with fail
      refine Q3.out.mono ?_;rintro e w1 ⟨rfl,rfl⟩;go_wp2_with fail
      go_ret
      exact⟨ret_i64 (a:=1) (by rw[HQ.out,if_neg l1,if_pos l2]),rfl⟩
     ·rw[if_neg (by omega),if_neg (by omega)]at Q3
      have hab:=hi_ (show a=b by omega);go_wp2_with fail
      refine Q3.out.mono ?_;rintro e w1 ⟨rfl,rfl⟩;go_wp2_with fail
      go_roundw
      case rel=>
       refine⟨i+1,?_,trivial,by omega,by omega,hi_ (fun k hk=>?_)⟩
       ·first|rfl|(congr 1)
       ·by_cases hk2:k=i
        ·rw[hk2,HH1.out,HH2.out,hab.out]
        ·exact HE.out k (by omega)
      case measure=>
       show lx-((i:Int)+1).toNat<lx-((i:Int)).toNat;omega
end A
end
section
open Go.RowKit
namespace N
def firstOk(s:List UInt8):Bool:=match s with | []=>false|c :: _=>decide (97<=c.toNat) && decide (c.toNat<=122)
theorem elemOk_eq(s:List UInt8):G.elemOk s=(firstOk s && (!s.isEmpty && lowOk s && !decide (0<=Lib.indexAny s CS.data.toList))):=by
 unfold G.elemOk;rw[nameOk_eq]
 cases s<;>rfl
theorem long_(s:List UInt8)(w:World) :
  Calls Tryz.prog 108 #[.string ⟨s.toArray⟩] w fun e w'=>e=.returned (.bool (decide (1048576<s.length)))/\w=w':=by
 have hsz:(⟨s.toArray⟩:ByteArray).size=s.length:=H.bytes_size s;have HD:Hid (decide (1048576<s.length)=decide ((1048576:Int)<(s.length:Int))):=hi_ (decide_eq_decide.2 (by omega));generalize (⟨s.toArray⟩:ByteArray)=S at *
 go_enter Tryz.func108,Tryz.ntmps108
 go_wp2_with fail
 go_ret
 refine⟨?_,rfl⟩;rw[HD.out]
 first|rfl|simp[gt_iff_lt]
theorem elementName_(s:List UInt8)(w:World)(hs:s.length<=100000)(hT:T.Tabs w) :
  Calls Tryz.prog 106 #[.string ⟨s.toArray⟩] w fun e w'=>e=.returned (.bool (G.elemOk s))/\Below w.heap.size w w':=by
 have hsz:(⟨s.toArray⟩:ByteArray).size=s.length:=H.bytes_size s;have hdt:(⟨s.toArray⟩:ByteArray).data.toList=s:=by simp
 have QL:=lower_ ⟨s.toArray⟩ w (by omega) hT;have QC:=fun W=>containsAny_ ⟨s.toArray⟩ W (by omega);rw[hdt]at QL QC;have HQ:=hi_ QL;have HC:=hi_ QC;have HV:=hi_ (elemOk_eq s);generalize G.elemOk s=V at *;clear QL QC hT
 cases s with
 |nil=>
  have HF:Hid (V=false):=HV;clear HQ HC HV hsz hdt
  go_enter Tryz.func106,Tryz.ntmps106
  go_wp2_with fail
  go_ret
  exact⟨H.ret_bool HF.out.symm,Below.refl _ _⟩
 |cons c t=>
  have hne:(⟨(c :: t).toArray⟩:ByteArray).toList.isEmpty=false:=by rw[Lib.toList_data];rfl
  have HV2:Hid (V=(decide (97<=c.toNat) && decide (c.toNat<=122) && (lowOk (c :: t) && !decide (0<=Lib.indexAny (c :: t) CS.data.toList)))):=hi_ (by rw[HV.out];rfl);have hp:0<(⟨(c :: t).toArray⟩:ByteArray).size:=by rw[hsz];simp
  have hc0:(⟨(c :: t).toArray⟩:ByteArray)[0]'hp=c:=rfl;generalize lowOk (c :: t)=v1 at *;generalize Lib.indexAny (c :: t) CS.data.toList=z at *;clear HV hdt hsz;generalize hS:(⟨(c :: t).toArray⟩:ByteArray)=S at *;have hp1:(0:Int)<(S.size:Int):=by omega
  clear hS
  by_cases h1:97<=c.toNat
  ·have h1':(97:Int)<=(c.toNat:Int):=by omega
   by_cases h2:c.toNat<=122
   ·have h2':(c.toNat:Int)<=122:=by omega
    have HV3:Hid (V=(v1 && !decide (0<=z))):=hi_ (by rw[HV2.out,decide_eq_true h1,decide_eq_true h2];rfl);clear h1 h2 HV2
    go_enter Tryz.func106,Tryz.ntmps106
    go_wp2_with fail
    refine HQ.out.mono ?_;rintro e w1 ⟨rfl,b1⟩;have HB1:=hi_ b1;clear b1
    cases v1 with
    |false=>
     have HF:=hi_ (show V=false by rw[HV3.out];rfl);go_wp2_with fail
     go_ret
     exact⟨H.ret_bool HF.out.symm,HB1.out⟩
    |true=>
     have HV4:=hi_ (show V = !decide (0<=z) by rw[HV3.out,Bool.true_and]);generalize hd:decide (0<=z)=d at *;clear hd;go_wp2_with fail
     refine(HC.out _).mono ?_;rintro e w2 ⟨rfl,b2⟩;have HB2:=bt_ HB1 b2;clear b2;go_wp2_with fail
     go_ret
     exact⟨H.ret_bool HV4.out.symm,HB2.out⟩
   ·have h2':¬(c.toNat:Int)<=122:=by omega
    have HF:Hid (V=false):=hi_ (by rw[HV2.out,decide_eq_false h2,Bool.and_false,Bool.false_and]);clear h1 h2 HV2
    go_enter Tryz.func106,Tryz.ntmps106
    go_wp2_with fail
    go_ret
    exact⟨H.ret_bool HF.out.symm,Below.refl _ _⟩
  ·have h1':¬(97:Int)<=(c.toNat:Int):=by omega
   have HF:Hid (V=false):=hi_ (by rw[HV2.out,decide_eq_false h1,Bool.false_and,Bool.false_and]);clear h1 HV2
   go_enter Tryz.func106,Tryz.ntmps106
   go_wp2_with fail
   go_ret
   exact⟨H.ret_bool HF.out.symm,Below.refl _ _⟩
end N
end
section
open Go.RowKit Go.Sort
namespace A
open H G
theorem top_has{T:TMem}{m:Model}{pos:Nat->Nat}(F:Fits T m pos)(j:Nat):has m j=true->has m (top m j)=true:=by
 refine F.wf.up_ind (P:=fun j=>has m j=true->has m (top m j)=true) (fun h hp hh=>?_) (fun h p hp ih hh=>?_) j
 ·rw[F.wf.top_root hp];exact hh
 ·rw[F.wf.top_step hp];exact ih (has_parent F hh hp)
theorem pidx_len{m:Model}(W:WF m)(j:Nat):(pidx m j).length+1=depth m j:=by
 refine W.up_ind (P:=fun j=>(pidx m j).length+1=depth m j) (fun h hp=>?_) (fun h p hp ih=>?_) j
 ·rw[pidx_root hp,W.depth_root hp];rfl
 ·rw[W.pidx_step hp,W.depth_step hp,List.length_append];simp;omega
theorem compare_(T:TMem)(m:Model)(pos:Nat->Nat)(i j:Nat)(w:World)(hT:TreeIs w T m pos)(hi:has m i=true)(hj:has m j=true)(ht:top m i=top m j) :
  Calls Tryz.prog 42 #[.pointer (some ⟨T.tb,0,none⟩),.int .i64 (hd T pos i),.int .i64 (hd T pos j)] w fun e w'=>e=.returned (.tuple #[.int .i64 (cmpL (pidx m i) (pidx m j)),.int .i64 0])/\Below w.heap.size w w':=by
 have hF:=hT.fits;have hfew:=hT.mem.few;have QA:=hi_ (fun(y:Nat) (hy:has m y=true) W (hb:Below w.heap.size w W)=>at_ T (hd T pos y) W (hT.below hb).mem (by have:=hd_pos (T:=T) (pos:=pos) y;omega) (by have:=hd_big hfew hF hy;omega));have QT:=hi_ (fun(y:Nat) (hy:has m y=true) W (hb:Below w.heap.size w W)=>top_ T m pos y W (hT.below hb) hy);have QP:=hi_ (fun(y:Nat) (hy:has m y=true) W (hb:Below w.heap.size w W)=>path_ T m pos y W (hT.below hb) hy);have Q1:=hi_ (QA.out i hi);have Q2:=hi_ (QA.out j hj);rw[ptr_hd hfew hF hi 1]at Q1;rw[ptr_hd hfew hF hj 1]at Q2;have Q3:=hi_ (QT.out i hi);have Q4:=hi_ (QT.out j hj);rw[ht]at Q3;have Q5:=hi_ (QP.out i hi);have Q6:=hi_ (QP.out j hj);have l1:=pidx_len hF.wf i;have l2:=pidx_len hF.wf j;have l3:=hF.wf.depth_le i;have l4:=hF.wf.depth_le j
 generalize pidx m i=x at *;generalize pidx m j=y at *;generalize hd T pos i=zi at *;generalize hd T pos j=zj at *;generalize hd T pos (top m j)=zt at *;clear hT QA QT QP hF
 go_enter Tryz.func42,Tryz.ntmps42
 go_wp2_with fail
 refine(Q1.out _ (Below.refl _ _)).mono ?_;rintro e w1 ⟨rfl,hb⟩;have HB1:=hi_ hb;clear hb;go_wp2_with fail
 refine(Q2.out _ HB1.out).mono ?_;rintro e w2 ⟨rfl,hb⟩;have HB2:=bt_ HB1 hb;clear hb;go_wp2_with fail
 refine(Q3.out _ HB2.out).mono ?_;rintro e w3 ⟨rfl,hb⟩;have HB3:=bt_ HB2 hb;clear hb;go_wp2_with fail
 refine(Q4.out _ HB3.out).mono ?_;rintro e w4 ⟨rfl,hb⟩;have HB4:=bt_ HB3 hb;clear hb;go_wp2_with fail
 refine(Q5.out _ HB4.out).mono ?_;rintro e w5 ⟨v5,rfl,hb,ho5⟩;have HB5:=bt_ HB4 hb;have HO5:=hi_ ho5;clear hb ho5;go_wp2_with fail
 refine(Q6.out _ HB5.out).mono ?_;rintro e w6 ⟨v6,rfl,hb,ho6⟩;have HB6:=bt_ HB5 hb;have HO6:=hi_ (own_below HO5.out hb);have QC:=hi_ (compareN v5 v6 x y w6 HO6.out ho6 (by omega) (by omega));clear hb ho6;go_wp2_with fail
 refine QC.out.mono ?_;rintro e w7 ⟨rfl,rfl⟩;go_wp2_with fail
 exact bodyPost_ret (v:=.tuple #[.int .i64 (cmpL x y),.int .i64 0]) (by simp[results,Tryz.results42,go_sem]) rfl ⟨rfl,HB6.out⟩
end A
end
section
open Go.RowKit Go.Sort
namespace A
open H G
section
variable {w w0:World} {g:Nat} {t:TypeId} {cs:Array Value}
def set11(w:World)(g:Nat)(b0 b1 b2 b3 b4 b5 b6 b7 b8 b9 b10:Value):World:=(((((((((((w.setCell ⟨g,0,none⟩ b0).setCell ⟨g,1,none⟩ b1).setCell ⟨g,2,none⟩ b2).setCell ⟨g,3,none⟩ b3).setCell ⟨g,4,none⟩ b4).setCell ⟨g,5,none⟩ b5).setCell ⟨g,6,none⟩ b6).setCell ⟨g,7,none⟩ b7).setCell ⟨g,8,none⟩ b8).setCell ⟨g,9,none⟩ b9).setCell ⟨g,10,none⟩ b10)
theorem Blk.set11{a0 a1 a2 a3 a4 a5 a6 a7 a8 a9 a10:Value}(h:Blk g #[a0,a1,a2,a3,a4,a5,a6,a7,a8,a9,a10] t w)(b0 b1 b2 b3 b4 b5 b6 b7 b8 b9 b10:Value):Blk g #[b0,b1,b2,b3,b4,b5,b6,b7,b8,b9,b10] t (A.set11 w g b0 b1 b2 b3 b4 b5 b6 b7 b8 b9 b10):=by
 have h9:=(((((((((((h.set 0 b0).set 1 b1).set 2 b2).set 3 b3).set 4 b4).set 5 b5).set 6 b6).set 7 b7).set 8 b8).set 9 b9).set 10 b10);simp only[List.setIfInBounds_toArray,List.set_cons_zero,List.set_cons_succ]at h9;exact h9
theorem below_set11{B:Nat}(h:Below B w0 w)(hg:B<=g)(b0 b1 b2 b3 b4 b5 b6 b7 b8 b9 b10:Value):Below B w0 (set11 w g b0 b1 b2 b3 b4 b5 b6 b7 b8 b9 b10):=(bset (bset (bset (bset (bset (bset (bset (bset (bset (bset (bset h hg) hg) hg) hg) hg) hg) hg) hg) hg) hg) hg)
theorem frame_set11{S:Nat->Prop}(h:H.Frame S w0 w)(hg:S g\/w0.heap.size<=g)(b0 b1 b2 b3 b4 b5 b6 b7 b8 b9 b10:Value):H.Frame S w0 (set11 w g b0 b1 b2 b3 b4 b5 b6 b7 b8 b9 b10):=(Frame.set (Frame.set (Frame.set (Frame.set (Frame.set (Frame.set (Frame.set (Frame.set (Frame.set (Frame.set (Frame.set h hg 0 b0) hg 1 b1) hg 2 b2) hg 3 b3) hg 4 b4) hg 5 b5) hg 6 b6) hg 7 b7) hg 8 b8) hg 9 b9) hg 10 b10)
theorem Blk.far11{k:Nat}(h:Blk g cs t w)(hne:g≠k)(b0 b1 b2 b3 b4 b5 b6 b7 b8 b9 b10:Value):Blk g cs t (A.set11 w k b0 b1 b2 b3 b4 b5 b6 b7 b8 b9 b10):=(Blk.far (Blk.far (Blk.far (Blk.far (Blk.far (Blk.far (Blk.far (Blk.far (Blk.far (Blk.far (Blk.far h hne 0 b0) hne 1 b1) hne 2 b2) hne 3 b3) hne 4 b4) hne 5 b5) hne 6 b6) hne 7 b7) hne 8 b8) hne 9 b9) hne 10 b10)
theorem cells11{a0 a1 a2 a3 a4 a5 a6 a7 a8 a9 a10:Value}(h:Blk g #[a0,a1,a2,a3,a4,a5,a6,a7,a8,a9,a10] t w):(w.cell? ⟨g,0,none⟩=some a0/\w.cell? ⟨g,1,none⟩=some a1/\w.cell? ⟨g,2,none⟩=some a2/\w.cell? ⟨g,3,none⟩=some a3/\w.cell? ⟨g,4,none⟩=some a4/\w.cell? ⟨g,5,none⟩=some a5/\w.cell? ⟨g,6,none⟩=some a6/\w.cell? ⟨g,7,none⟩=some a7/\w.cell? ⟨g,8,none⟩=some a8/\w.cell? ⟨g,9,none⟩=some a9/\w.cell? ⟨g,10,none⟩=some a10)/\(w.frozen? ⟨g,0,none⟩=false/\w.frozen? ⟨g,1,none⟩=false/\w.frozen? ⟨g,2,none⟩=false/\w.frozen? ⟨g,3,none⟩=false/\w.frozen? ⟨g,4,none⟩=false/\w.frozen? ⟨g,5,none⟩=false/\w.frozen? ⟨g,6,none⟩=false/\w.frozen? ⟨g,7,none⟩=false/\w.frozen? ⟨g,8,none⟩=false/\w.frozen? ⟨g,9,none⟩=false/\w.frozen? ⟨g,10,none⟩=false):=by
 obtain⟨hc,hf⟩:=cells_of h;exact⟨⟨hc 0,hc 1,hc 2,hc 3,hc 4,hc 5,hc 6,hc 7,hc 8,hc 9,hc 10⟩,⟨hf 0 (by show 0<11;omega),hf 1 (by show 1<11;omega),hf 2 (by show 2<11;omega),hf 3 (by show 3<11;omega),hf 4 (by show 4<11;omega),hf 5 (by show 5<11;omega),hf 6 (by show 6<11;omega),hf 7 (by show 7<11;omega),hf 8 (by show 8<11;omega),hf 9 (by show 9<11;omega),hf 10 (by show 10<11;omega)⟩⟩
end
theorem TreeMem.store{w:World}{T:TMem}(h:TreeMem w T){s k:Nat}(hs:s<T.slots.length)(hk:k<10)(u:Value)(f:Slot->Slot)(hf:scells (f (T.sl s))=(scells (T.sl s)).set k u)(ha:∀r,(f r).attrs=r.attrs/\(f r).al=r.al) :
  TreeMem (w.setCell ⟨T.g,s*10+k,none⟩ u) (T.modS s f):=by
 have hg1:T.tb≠T.g:=fun e=>own_not h.row h.blk (by decide) (by rw[e];rfl);have hgf:T.freeV.ownBlock≠some T.g:=fun e=>own_ne h.free h.row (by decide) e rfl;have hga:∀r,r∈T.slots->r.attrs.ownBlock≠some T.g:=fun r hr e=>own_ne (h.attrs r hr) h.row (by decide) e rfl;have hlen:(T.modS s f).slots.length=T.slots.length:=modS_len T s f;refine⟨?_,?_,by rw[hlen];exact h.few,h.bb,own_far h.free hgf _ _,?_⟩
 ·have h1:=h.blk.far hg1 (s*10+k) u
  unfold tcells at h1 ⊢;rw[hlen];exact h1
 ·exact RecRow.store scells_len h.row hs hk u f (by rw[<-sl_at hs];exact hf)
 ·intro r hr
  unfold TMem.modS at hr;obtain⟨i,hi⟩:=List.mem_iff_getElem?.1 hr;rw[List.getElem?_modify]at hi
  cases h2:T.slots[i]? with
  |none=>rw[h2]at hi;split at hi<;>cases hi
  |some r0=>
   have hm:=List.mem_of_getElem? h2;rw[h2]at hi;have h3:=own_far (h.attrs r0 hm) (hga r0 hm) (s*10+k) u
   split at hi
   ·have e:f r0=r:=by simpa using hi
    rw[<-e,(ha r0).1,(ha r0).2];exact h3
   ·have e:r0=r:=by simpa using hi
    rw[<-e];exact h3
theorem sl_used{T:TMem}{s:Nat}{f:Slot->Slot}(hf:∀r,(f r).used=r.used)(i:Nat):((T.modS s f).sl i).used=(T.sl i).used:=by
 show((T.slots.modify s f).getD i freeSlot).used=(T.slots.getD i freeSlot).used;rw[List.getD_eq_getElem?_getD,List.getD_eq_getElem?_getD,List.getElem?_modify]
 cases T.slots[i]? with
 |none=>split<;>rfl
 |some r=>
  split
  ·exact hf r
  ·rfl
theorem at_modS{T:TMem}{s:Nat}{f:Slot->Slot}(hf:∀r,(f r).used=r.used)(z:Int):(T.modS s f).at_ z=T.at_ z:=by
 unfold TMem.at_;show(match slotOf T.bs T.st z with|some i=>_|none=>none)=_
 cases slotOf T.bs T.st z with
 |none=>rfl
 |some i=>
  dsimp only;have hl:=modS_len T s f
  by_cases hi:i<T.slots.length
  ·have hi':i<(T.modS s f).slots.length:=by rw[hl];exact hi
   rw[dif_pos hi',dif_pos hi];have:((T.modS s f).slots[i]).used=(T.slots[i]).used:=by rw[<-sl_at hi',<-sl_at hi];exact sl_used hf i
   rw[this]
  ·rw[dif_neg (by rw[hl];exact hi),dif_neg hi]
theorem ptr_modS{T:TMem}{s:Nat}{f:Slot->Slot}(hf:∀r,(f r).used=r.used)(o:Nat)(z:Int):(T.modS s f).ptr o z=T.ptr o z:=by
 unfold TMem.ptr;rw[at_modS hf];rfl
theorem TreeMem.cell{w:World}{T:TMem}(h:TreeMem w T){s k:Nat}(hs:s<T.slots.length)(hk:k<10):w.cell? ⟨T.g,s*10+k,none⟩=(scells (T.sl s))[k]?/\w.frozen? ⟨T.g,s*10+k,none⟩=false:=by
 rw[sl_at hs];exact RecRow.cell scells_len h.row hs hk
def rcells(T:TMem)(pos:Nat->Nat)(r:Rec):List Value:=[.int .i64 (r.kind:Nat),.int .i64 (hd T pos r.target),.int .i64 (hdO T pos r.node),.int .i64 (hdO T pos r.prev),.int .i64 (hdO T pos r.next),.int .i64 (r.index:Nat),.string ⟨r.name.toArray⟩,.string ⟨r.old.toArray⟩,.bool r.had,.int .i64 (r.count:Nat),.int .i64 (r.size:Nat)]
theorem rcells_len(T:TMem)(pos:Nat->Nat)(r:Rec):(rcells T pos r).length=11:=rfl
end A
end
section
open Go.RowKit Go.Sort
namespace A
open H G
theorem plain_bool_val{P:Program}{e:TypeId}(he:P.underlying e=some .bool){v:Value}{b:Bool}{ps:List MemPlace}(h:plainElem (H:=Nat) P e v=some (.lit (.bool b),ps)):v=.bool b:=by
 unfold plainElem at h;rw[he]at h
 cases v<;>simp at h
 rw[h.1]
def NamesAt(w:World)(b n:Nat)(S:List (List UInt8)):Prop:=
 ∃D:DataW Nat,w.ownsMap Tryz.prog 9 (plainElem Tryz.prog 4) b n D/\Maps.IsMap D/\∀k,D.atKey (.string k) (.lit (.bool false))=.lit (.bool (S.contains k))
theorem names_key(k:List UInt8)(hk:k.length<=maxLen):keyOf Tryz.prog 9 (.string ⟨k.toArray⟩)=some (.string k):=by
 have:=WideMaps.keyOf_string_mk (P:=Tryz.prog) (k:=9) Tryz.underlying9 (s:=⟨k.toArray⟩) (by rw[H.bytes_size];exact hk);simpa using this
theorem NamesAt.made(w:World):NamesAt (w.alloc (.map #[] 0)) w.heap.size 0 []:=
 ⟨.map [],World.ownsMap_made w _ _ _,⟨[],rfl⟩,fun k=>rfl⟩
theorem NamesAt.lookup{w:World}{b n:Nat}{S:List (List UInt8)}(h:NamesAt w b n S)(k:List UInt8)(hk:k.length<=maxLen):(Instr.lookup 225 (.map (some b)) (.string ⟨k.toArray⟩) false).run Tryz.prog w=.ok (.bool (S.contains k)) w:=by
 obtain⟨D,hm,_,hD⟩:=h;obtain⟨v,ps,hrun,hv⟩:=hm.lookup (Maps.string_keyed Tryz.underlying9) Tryz.underlying225 (Tryz.zeroValue4 w) (plainElem_bool Tryz.underlying4 false) (names_key k hk);rw[hD k]at hv;rw[plain_bool_val Tryz.underlying4 hv]at hrun;exact hrun
theorem NamesAt.update{w:World}{b n:Nat}{S:List (List UInt8)}(h:NamesAt w b n S)(k:List UInt8)(hk:k.length<=maxLen)(hn:n<maxLen) :
  ∃w',(Instr.mapUpdate 225 (.map (some b)) (.string ⟨k.toArray⟩) (.bool true)).run Tryz.prog w=.ok () w'/\NamesAt w' b (n+1) (S++[k])/\w.grownBy w' (some b):=by
 obtain⟨D,hm,hI,hD⟩:=h;obtain⟨w',hrun,h1,h2⟩:=hm.update (Maps.string_keyed Tryz.underlying9) Tryz.underlying225 hn (names_key k hk) (plainElem_bool Tryz.underlying4 true);refine⟨w',hrun,⟨_,h1,?_,fun k'=>?_⟩,h2⟩
 ·obtain⟨es,rfl⟩:=hI;exact⟨_,rfl⟩
 ·by_cases e:k'=k
  ·subst e
   rw[Maps.atKey_put_same hI (by trivial)];simp
  ·rw[Maps.atKey_put_other (fun h=>e (by injection h)),hD k']
   simp[e]
theorem NamesAt.kept{w w':World}{row:Option Nat}{b n:Nat}{S:List (List UInt8)}(h:NamesAt w b n S)(hg:w.grownBy w' row)(hne:some b≠row):NamesAt w' b n S:=by
 obtain⟨D,h1,h2,h3⟩:=h;exact⟨D,h1.kept hg hne,h2,h3⟩
theorem NamesAt.below{w w':World}{b n:Nat}{S:List (List UInt8)}(h:NamesAt w b n S)(hb:Below w.heap.size w w'):NamesAt w' b n S:=h.kept (row:=none) ⟨hb.os,hb.tape,hb.output,hb.size,fun k hk _=>hb.block k hk⟩ (by simp)
theorem attrs_(v:Value)(l:List (List UInt8×List UInt8))(w:World)(h:AttrsAt w v l)(hl:l.length<=1000)(hs:∀a,a∈l->a.1.length<=100000)(hT:T.Tabs w) :
  Calls Tryz.prog 107 #[v] w fun e w'=>e=.returned (.bool (attrsOk l []))/\Below w.heap.size w w':=by
 obtain⟨ao,cap,hv⟩:=AttrsAt.slice h;subst hv;have HM0:=hi_ (NamesAt.made w);have HT:=hi_ hT;have HA:=hi_ h;have HS:=hi_ hs;have HB0:=hi_ ((Below.refl w.heap.size w).alloc (Nat.le_refl _) (.map #[] 0));have QN:=hi_ (fun(s:List UInt8) (hs:s.length<=100000) W (hW:Below w.heap.size w W)=>N.attrName_ s W hs (hT.below hW));have HR:Hid (attrsOk l []=attrsOk l []):=hi_ rfl;clear h hs hT
 go_enter Tryz.func107,Tryz.ntmps107
 have hmm:=@run_makeMap Tryz.prog;go_wp2_with fail
 go_loopw [9] (fun v9 wr=>∃i:Nat,v9=.int .i64 i/\i<=l.length/\Below w.heap.size w wr/\NamesAt wr w.heap.size i ((l.take i).map (·.1))/\Hid (attrsOk l []=attrsOk (l.drop i) ((l.take i).map (·.1)))) (fun v9 _=>l.length-(intOfV v9).toNat)
 case atStart=>exact⟨0,rfl,Nat.zero_le _,HB0.out,HM0.out,hi_ rfl⟩
 case round=>
  obtain⟨i,rfl,hi,hB,hN,HI⟩:=hrel;have HBr:=hi_ hB;have HN:=hi_ hN;have hlw:=hB.size;clear hB hN HM0 HB0
  by_cases hil:i<l.length
  ·have hiI:(i:Int)<(l.length:Int):=by omega
   obtain⟨g,cap',hv,hgl⟩:=(HA.out.form).resolve_left (fun h=>by have:=h.2;rw[this]at hil;simp at hil);injection hv with e1 _ e3
   subst e1 e3;have hA2:AttrsAt wr (.slice (some ⟨g,0,none⟩) l.length cap) l:=own_below HA.out HBr.out;have hc0:=(RecRow.cell acells_len hA2 hil (k:=0) (by omega)).1;have hc1:=(RecRow.cell acells_len hA2 hil (k:=1) (by omega)).1;have hgl2:g<wr.heap.size:=by omega
   have hmem:=List.getElem_mem hil;have hlen:=HS.out _ hmem;have HD:Hid (l.drop i=l[i] :: l.drop (i+1)):=hi_ (List.drop_eq_getElem_cons hil);have HTk:Hid ((l.take (i+1)).map (·.1)=(l.take i).map (·.1)++[l[i].1]):=hi_ (by rw[List.take_succ_eq_append_getElem hil,List.map_append];rfl);generalize l[i]=a at *;obtain⟨nm,vl⟩:=a;have k0:wr.cell? ⟨g,i*2,none⟩=some (.string ⟨nm.toArray⟩):=hc0;have k1:wr.cell? ⟨g,i*2+1,none⟩=some (.string ⟨vl.toArray⟩):=hc1;have HB2:=hi_ (HBr.out.alloc HBr.out.size (.cells #[.string ⟨nm.toArray⟩,.string ⟨vl.toArray⟩] 142));have HN2:=hi_ (HN.out.below ((Below.refl wr.heap.size wr).alloc (Nat.le_refl _) (.cells #[.string ⟨nm.toArray⟩,.string ⟨vl.toArray⟩] 142)))
   have HX2:=hi_ (show Blk wr.heap.size #[.string ⟨nm.toArray⟩,.string ⟨vl.toArray⟩] 142 (wr.alloc (.cells #[.string ⟨nm.toArray⟩,.string ⟨vl.toArray⟩] 142))from Blk.new _ _ _);have Q1:=hi_ (QN.out nm hlen _ HB2.out);have HI2:Hid (attrsOk l []=(headOk nm && !((l.take i).map (·.1)).contains nm && attrsOk (l.drop (i+1)) ((l.take i).map (·.1)++[nm]))):=hi_ (by rw[HI.out,HD.out];rfl);generalize (l.take i).map (·.1)=S at *;generalize headOk nm=v1 at *;clear hc0 hc1 hA2 HI HD hmem;go_wp2_with fail
   refine Q1.out.mono ?_;rintro e w3 ⟨rfl,hb3⟩;have HB3:=bt_ HB2 hb3;have HN3:=hi_ (HN2.out.below hb3);obtain⟨hx,_⟩:=cells_of (HX2.out.below hb3);have x0:w3.cell? ⟨wr.heap.size,0,none⟩=some (.string ⟨nm.toArray⟩):=hx 0;have hl3:=(HX2.out.below hb3).lt;clear hb3 hx
   cases v1 with
   |false=>
    have HF:Hid (attrsOk l []=false):=hi_ (by rw[HI2.out];rfl);go_wp2_with fail
    go_ret
    exact⟨H.ret_bool HF.out.symm,HB3.out⟩
   |true=>
    have hrun:=HN3.out.lookup nm (by unfold maxLen;omega)
    cases hsc:S.contains nm with
    |true=>
     have HF:Hid (attrsOk l []=false):=hi_ (by rw[HI2.out,hsc];rfl);rw[hsc]at hrun;go_wp2_with fail
     go_ret
     exact⟨H.ret_bool HF.out.symm,HB3.out⟩
    |false=>
     rw[hsc]at hrun;have HI3:Hid (attrsOk l []=attrsOk (l.drop (i+1)) (S++[nm])):=hi_ (by rw[HI2.out,hsc];rfl);obtain⟨w4,hup,hN4,hg4⟩:=HN3.out.update nm (by unfold maxLen;omega) (by unfold maxLen;omega);have HB4:=hi_ (HB3.out.grown hg4 HB3.out.size (fun k hk=>by injection hk with hk;rw[<-hk];exact Nat.le_refl _));have HN4:=hi_ hN4;clear hg4 hN4 hsc;go_wp2_with fail
     go_roundw
     case rel=>exact⟨i+1,by go_num,by omega,HB4.out,by rw[HTk.out];exact HN4.out,by rw[HTk.out];exact HI3⟩
     case measure=>simp[intOfV];omega
  ·have hiI:¬(i:Int)<(l.length:Int):=by omega
   have HF:Hid (attrsOk l []=true):=hi_ (by rw[HI.out,List.drop_eq_nil_of_le (by omega)];rfl);go_wp2_with fail
   go_ret
   exact⟨H.ret_bool HF.out.symm,HBr.out⟩
end A
end
section
open Go.RowKit Go.Shelf
attribute [local go_sem] Oper.semAt_some
namespace A
open H G
structure Round(O:World->Nat->Prop)(W W':World):Prop where
 frame:H.Frame (O W) W W'
 own:∀b,O W' b->O W b\/W.heap.size<=b
theorem Round.trans{O:World->Nat->Prop}{A B C:World}(h:Round O A B)(k:Round O B C):Round O A C:=by
 refine⟨⟨k.frame.os.trans h.frame.os,k.frame.tape.trans h.frame.tape,k.frame.output.trans h.frame.output,Nat.le_trans h.frame.size k.frame.size,fun i hi hn=>?_⟩,fun b hb=>?_⟩
 ·exact(k.frame.block i (Nat.lt_of_lt_of_le hi h.frame.size) (fun ho=>(h.own i ho).elim hn (fun h2=>by omega))).trans (h.frame.block i hi hn)
 ·rcases k.own b hb with h1|h1
  ·exact h.own b h1
  ·exact Or.inr (Nat.le_trans h.frame.size h1)
theorem Round.of_below{O:World->Nat->Prop}{W W':World}(hb:Below W.heap.size W W')(ho:∀b,O W' b->O W b):Round O W W':=⟨H.Frame.of hb,fun b h=>Or.inl (ho b h)⟩
structure Keeps(O:World->Nat->Prop)(J:Nat->World->Prop)(w0:World):Prop where
 go:∀k W W',J k W->Below W.heap.size W W'->J k W'
 below:∀k W,J k W->Below w0.heap.size w0 W
 lt:∀k W b,J k W->O W b->b<W.heap.size
 old:∀k W W' b,J k W->Below W.heap.size W W'->O W' b->O W b
theorem drop_flat{L ks r:List Nat}{f:Nat->List Nat}{k i x:Nat}(h:L.drop (k+1)=ks.flatMap f++r)(hx:ks[i]?=some x) :
  (∃r',L.drop (k+1+((ks.take i).flatMap f).length)=f x++r')/\k+1+((ks.take i).flatMap f).length+(f x).length=k+1+((ks.take (i+1)).flatMap f).length:=by
 have hi:i<ks.length:=(List.getElem?_eq_some_iff.1 hx).1;have e0:ks=ks.take i++x :: ks.drop (i+1):=by
  have h1:ks.drop i=x :: ks.drop (i+1):=by
   rw[List.drop_eq_getElem_cons hi,(List.getElem?_eq_some_iff.1 hx).2]
  rw[<-h1,List.take_append_drop]
 constructor
 ·refine⟨(ks.drop (i+1)).flatMap f++r,?_⟩
  have e1:ks.flatMap f++r=(ks.take i).flatMap f++(f x++((ks.drop (i+1)).flatMap f++r)):=by
   conv=>lhs;rw[e0]
   rw[List.flatMap_append,List.flatMap_cons,List.append_assoc,List.append_assoc]
  rw[<-List.drop_drop,h,e1,List.drop_left]
 ·rw[List.take_add_one,hx,List.flatMap_append,List.length_append]
  simp;omega
theorem own_round{O:World->Nat->Prop}{W W':World}{base n size:Nat}{e:TypeId}{v:Value}{xs:List Value}(h:W.ownsRow base e size v n xs)(r:Round O W W')(hn:∀g,v.ownBlock=some g->¬O W g) :
  W'.ownsRow base e size v n xs/\∀g,v.ownBlock=some g->¬O W' g:=
 ⟨own_frame h r.frame hn,fun g hg ho=>(r.own g ho).elim (hn g hg) (fun h2=>by have:=(World.ownsRow.lt h g hg).2;omega)⟩
theorem walk_it(T:TMem)(m:Model)(pos:Nat->Nat)(w0:World)(hT:TreeIs w0 T m pos)(L:List Nat)(l:Nat)(O:World->Nat->Prop)(J:Nat->World->Prop)(K:Keeps O J w0)
  (hY:∀n k W,J k W->k<L.length->YieldAt Fence.wide n Tryz.prog l #[.int .i64 (hd T pos (L.getD k 0))] W fun e W'=>e=.returned (.bool true)/\J (k+1) W'/\Round O W W') (c:Nat) :
  has m c=true->∀n k W,(∃r,L.drop k=walk m c++r)->J k W →
  CallsIn Fence.wide n Tryz.prog 99 #[.pointer (some ⟨T.tb,0,none⟩),.int .i64 (hd T pos c),.func (.yield l) #[] #[]] W fun e W'=>e=.returned (.bool true)/\J (k+(walk m c).length) W'/\Round O W W':=by
 have hW:=hT.fits.wf;refine hW.down_ind (P:=fun c=>has m c=true->∀n k W,(∃r,L.drop k=walk m c++r)->J k W →
  CallsIn Fence.wide n Tryz.prog 99 #[.pointer (some ⟨T.tb,0,none⟩),.int .i64 (hd T pos c),.func (.yield l) #[] #[]] W fun e W'=>e=.returned (.bool true)/\J (k+(walk m c).length) W'/\Round O W W') (fun c ih hc n k W hr hJ=>?_) c
 have hew:=hW.walk_eq c;obtain⟨r,hr⟩:=hr;have hkL:k<L.length:=by
  rcases Nat.lt_or_ge k L.length with h|h
  ·exact h
  ·rw[List.drop_of_length_le h,hew]at hr;cases hr
 have hLk:L.getD k 0=c:=by
  have h1:(L.drop k)[0]?=some c:=by rw[hr,hew];rfl
  rw[List.getElem?_drop,Nat.add_zero]at h1;simp[List.getD,h1]
 have hfew:=hT.mem.few;have hkf:=kids_few hfew hT.fits hc;have hkh:=fun x (hx:x∈(nd m c).kids)=>has_kid hT.fits hc hx;have hlen:(walk m c).length=1+((nd m c).kids.flatMap (walk m)).length:=by rw[hew];simp;omega
 have hdr:L.drop (k+1)=(nd m c).kids.flatMap (walk m)++r:=by
  rw[<-List.drop_drop,hr,hew];rfl
 have y1:=hY (n-1) k W hJ hkL;rw[hLk]at y1;have HK:Hid (∀W',Below w0.heap.size w0 W'->Calls Tryz.prog 94 #[.pointer (some ⟨T.tb,0,none⟩),.int .i64 (hd T pos c)] W' fun e w'=>∃v,e=.returned v/\Below W'.heap.size W' w'/\OwnH T pos W'.heap.size w' v (nd m c).kids):=hi_ (fun W' hb=>kids_ T m pos c W' (hT.below hb) hc);have HIH:=hi_ ih;have HKK:=hi_ K;have HLen:=hi_ hlen;have HDr:=hi_ hdr;have HKh:=hi_ hkh;clear ih K hlen hdr hkh hew hr hY hLk hT hW;generalize hks:(nd m c).kids=ks at *;clear hks;obtain⟨fn,tmps,assign,body,hy,hR⟩:=y1;have HR:=hi_ hR;clear hR;refine callsIn_of_wp Tryz.func99 rfl trivial ?_ rfl
 simp only[Tryz.ntmps99,List.size_toArray,List.length_cons,List.length_nil,Nat.reduceAdd,Nat.reduceSub,Array.replicate_succ,Array.replicate_zero,List.push_toArray,List.append_toArray,List.nil_append,List.cons_append]
 gi_wp2
 refine⟨fun h=>(by cases h),?_⟩;refine HR.out.mono ?_;rintro e W1 ⟨rfl,hJ1,hR1⟩;have HR1:=hi_ hR1;have HJ1:=hi_ hJ1;have hb1:=HKK.out.below _ _ hJ1;have QK:=hi_ (HK.out W1 hb1);clear hR1 hJ1 hb1 HR
 gi_wp2
 refine⟨trivial,fun h=>(by cases h),?_⟩;refine(callsIn_wide.2 QK.out).mono ?_;rintro e W2 ⟨v,rfl,hb2,hown⟩;obtain⟨ao,cap,hv,hcells⟩:=hown.form;subst hv;have HJ2:=hi_ (HKK.out.go _ _ _ HJ1.out hb2);have HR2:=hi_ (HR1.out.trans (Round.of_below hb2 (fun b hb=>HKK.out.old _ _ _ b HJ1.out hb2 hb)));have HNo2:Hid (∀g,(Value.slice ao ks.length cap).ownBlock=some g->¬O W2 g):=hi_ (fun g hg ho=>by
  have h1:=(World.ownsRow.lt hown g hg).1;have h2:=HKK.out.lt _ _ _ HJ1.out (HKK.out.old _ _ _ g HJ1.out hb2 ho)
  omega)
 have HOwn:=hi_ hown;clear hown hcells hb2 QK HR1 HJ1 HK
 gi_wp2
 gi_loopw [17] (fun v17 wr=>∃i:Nat,v17=.int .i64 (i:Nat)/\i<=ks.length/\Hid (J (k+1+((ks.take i).flatMap (walk m)).length) wr)/\Hid (Round O W wr)/\Hid (OwnH T pos W1.heap.size wr (.slice ao ks.length cap) ks)/\Hid (∀g,(Value.slice ao ks.length cap).ownBlock=some g->¬O wr g))
  (fun v17 _=>ks.length-(Go.RowKit.intOf v17).toNat)
 case atStart=>
  exact⟨0,rfl,Nat.zero_le _,HJ2,HR2,HOwn,HNo2⟩
 case round=>
  obtain⟨i,rfl,hi,HJ3,HR3,HO3,HN3⟩:=hrel
  rcases Nat.lt_or_ge i ks.length with hlt|hge
  ·obtain⟨ao',cap',hv,hcells⟩:=HO3.out.form
   obtain⟨g,hao,hg,hbg,hcell⟩:=hcells i ks[i] (List.getElem?_eq_getElem hlt);injection hv with e1 e2 e3
   subst e1 e3;subst hao;have hx:ks[i]?=some ks[i]:=List.getElem?_eq_getElem hlt;have hmem:ks[i]∈ks:=List.getElem_mem hlt;obtain⟨hdr',hln⟩:=drop_flat (f:=walk m) HDr.out hx;have Q5:=hi_ (HIH.out ks[i] hmem (HKh.out _ hmem) (n-1) _ wr hdr' HJ3.out);rw[hln]at Q5;have hii:(i:Int)<(ks.length:Int):=by omega
   generalize ks[i]=x at *;clear hdr' hln hcells hx hmem HJ3
   gi_wp2
   refine⟨trivial,fun h=>(by cases h),?_⟩;refine Q5.out.mono ?_;rintro e W5 ⟨rfl,hJ5,hR5⟩;have HJ5:=hi_ hJ5;have HR5:=hi_ (HR3.out.trans hR5);obtain⟨o5,n5⟩:=own_round HO3.out hR5 HN3.out;have HO5:=hi_ o5;have HN5:=hi_ n5;clear hJ5 hR5 o5 n5
   gi_wp2
   go_roundw
   case rel=>exact⟨i+1,by go_num,by omega,HJ5,HR5,HO5,HN5⟩
   case measure=>simp[Go.RowKit.intOf];omega
  ·have hie:i=ks.length:=by omega
   subst hie;have hnot:¬((ks.length:Nat):Int)<((ks.length:Nat):Int):=by omega
   have HJ6:Hid (J (k+(walk m c).length) wr):=hi_ (by
    have h1:=HJ3.out;rw[List.take_length]at h1;rw[HLen.out,<-Nat.add_assoc];exact h1)
   gi_wp2
   go_ret
   exact⟨rfl,HJ6.out,HR3.out⟩
end A
end
section
open Go.RowKit Go.Sort
namespace A
open H G
theorem character_(k:Int)(n a d:Value)(p f l pr nx:Value)(w:World) :
  Calls Tryz.prog 85 #[.agg #[.int .i64 k,n,a,d,p,f,l,pr,nx]] w fun e w'=>e=.returned (.bool (k==3 || k==4))/\Below w.heap.size w w':=by
 have hB1:=(Below.refl w.heap.size w).alloc (Nat.le_refl _) (.cells #[.int .i64 k,n,a,d,p,f,l,pr,nx] 126)
 by_cases h1:k=3
 ·subst h1
  go_enter Tryz.func85,Tryz.ntmps85
  go_wp2_with fail
  go_ret
  exact⟨rfl,hB1⟩
 ·have n1:(k==3)=false:=beq_eq_false_iff_ne.2 h1
  by_cases h2:k=4
  ·subst h2
   go_enter Tryz.func85,Tryz.ntmps85
   go_wp2_with fail
   go_ret
   exact⟨rfl,hB1⟩
  ·have n2:(k==4)=false:=beq_eq_false_iff_ne.2 h2
   go_enter Tryz.func85,Tryz.ntmps85
   go_wp2_with fail
   go_ret
   exact⟨ret_bool (by rw[n1,n2];rfl),hB1⟩
def pointV(z k:Int):Value:=.agg #[.int .i64 z,.int .i64 k]
theorem check_none(T:TMem)(z k:Int)(w:World)(hT:TreeMem w T)(hz:-9223372036854775808<=z)(hz2:z<=9223372036854775807)(hp:T.ptr 0 z=none) :
  Calls Tryz.prog 38 #[.pointer (some ⟨T.tb,0,none⟩),pointV z k] w fun e w'=>e=.returned (.int .i64 6)/\Below w.heap.size w w':=by
 have hB1:=(Below.refl w.heap.size w).alloc (Nat.le_refl _) (.cells #[.int .i64 z,.int .i64 k] 31);have Q1:=hi_ (fun W (hW:Below w.heap.size w W)=>node_none T z W (hT.below hW) hz hz2 hp);unfold zeroNode at Q1;unfold pointV;clear hT hp
 go_enter Tryz.func38,Tryz.ntmps38
 go_wp2_with fail
 refine(Q1.out _ hB1).mono ?_;rintro e w2 ⟨rfl,hb2⟩;have HB2:=hi_ ((hB1.trans (hb2.mono hB1.size)));have HB3:=hi_ (HB2.out.alloc HB2.out.size (.cells #[.int .i64 0,.string ⟨#[]⟩,.slice none 0 0,.string ⟨#[]⟩,.int .i64 0,.int .i64 0,.int .i64 0,.int .i64 0,.int .i64 0] 126));clear hb2 Q1;go_wp2_with fail
 go_ret
 exact⟨rfl,HB3.out⟩
def okPt(m:Model)(i:Nat)(k:Int):Bool:=decide (0<=k) && decide (k<=(G.sizeOf m i:Nat))
theorem check_some(T:TMem)(m:Model)(pos:Nat->Nat)(i:Nat)(k:Int)(w:World)(hT:TreeIs w T m pos)(hi:has m i=true)(hl:(nd m i).attrs.length<=100000)(hd_:(nd m i).data.length<=1000000) :
  Calls Tryz.prog 38 #[.pointer (some ⟨T.tb,0,none⟩),pointV (hd T pos i) k] w fun e w'=>e=.returned (.int .i64 (if okPt m i k=true then 0 else 2))/\Below w.heap.size w w':=by
 have hF:=hT.fits;have hB1:=(Below.refl w.heap.size w).alloc (Nat.le_refl _) (.cells #[.int .i64 (hd T pos i),.int .i64 k] 31);have Q1:=hi_ (fun W (hW:Below w.heap.size w W)=>node_ T m pos i W (hT.below hW) hi hl);have Q2:=hi_ (fun W (hW:Below w.heap.size w W)=>kids_ T m pos i W (hT.below hW) hi);have QC:=hi_ (fun n a d p f l pr nx W=>character_ ((nd m i).kind:Nat) n a d p f l pr nx W);have HK:=hi_ (hF.kind i hi);have HD:=hi_ (hF.data i hi);have HZ:Hid (∀s,s=G.sizeOf m i->okPt m i k=(decide (0<=k) && decide (k<=(s:Nat)))):=hi_ (fun s hs=>by rw[hs];rfl);have HSz:Hid (G.sizeOf m i=if 2<(nd m i).kind then(U.pts (nd m i).data).length else(nd m i).kids.length):=hi_ rfl;have hk4:(nd m i).kind<=4:=by
  rcases Nat.eq_zero_or_pos i with h0|h0
  ·rw[h0,hF.wf.doc.2.1];omega
  ·exact(hF.wf.kinds i (has_lt hi) h0).2
 have HK4:=hi_ hk4;have hkf:=kids_few hT.mem.few hF hi;have HKF:=hi_ hkf;unfold nodeAgg at Q1;rw[HK.out,HD.out]at Q1;unfold pointV;generalize hres:(if okPt m i k=true then(0:Int)else 2)=res;have HRes:=hi_ hres;clear hres;generalize okPt m i k=ok at *;generalize T.sl (pos i)=r at *;generalize hd T pos i=z at *;generalize (nd m i).kids=kl at *;generalize (nd m i).kind=kd at *;generalize (nd m i).data=dt at *;generalize (nd m i).attrs=al at *;generalize G.sizeOf m i=sz at *;have HZ1:=hi_ (HZ.out _ rfl);clear hT hF hi HK HD HZ hk4 hkf
 go_enter Tryz.func38,Tryz.ntmps38
 go_wp2_with fail
 refine(Q1.out _ hB1).mono ?_;rintro e w2 ⟨v,rfl,hb2,hr2⟩;obtain⟨bo,bcap,rfl⟩:=AttrsAt.slice (own_base hr2);have HB2:=hi_ (hB1.trans (hb2.mono hB1.size));have HP2:=hi_ (show Blk w.heap.size #[.int .i64 z,.int .i64 k] 31 w2 from (Blk.new w _ _).below hb2);obtain⟨hc,hf⟩:=cells_of HP2.out;have p0:w2.cell? ⟨w.heap.size,0,none⟩=some (.int .i64 z):=hc 0;have p1:w2.cell? ⟨w.heap.size,1,none⟩=some (.int .i64 k):=hc 1;have hlt2:=HP2.out.lt;clear hb2 hr2 Q1 hc hf;go_wp2_with fail
 have HB3:=hi_ (HB2.out.alloc HB2.out.size (.cells #[.int .i64 (kd:Nat),.string ⟨r.name.toArray⟩,.slice bo al.length bcap,.string ⟨dt.toArray⟩,.int .i64 r.parent,.int .i64 r.first,.int .i64 r.last,.int .i64 r.prev,.int .i64 r.next] 126));refine(Q2.out _ HB3.out).mono ?_;rintro e w3 ⟨kv,rfl,hb3,ho3⟩;obtain⟨ao,cap,rfl,_⟩:=OwnH.form ho3;have HB4:=bt_ HB3 hb3;have HN:=hi_ (show Blk w2.heap.size #[.int .i64 (kd:Nat),.string ⟨r.name.toArray⟩,.slice bo al.length bcap,.string ⟨dt.toArray⟩,.int .i64 r.parent,.int .i64 r.first,.int .i64 r.last,.int .i64 r.prev,.int .i64 r.next] 126 w3 from (Blk.new w2 _ _).below hb3);have HP3:=hi_ ((HP2.out.alloc _).below hb3);obtain⟨hc,hf⟩:=cells_of HP3.out;have p0:w3.cell? ⟨w.heap.size,0,none⟩=some (.int .i64 z):=hc 0
 have p1:w3.cell? ⟨w.heap.size,1,none⟩=some (.int .i64 k):=hc 1;obtain⟨⟨c0,c1,c2,c3,c4,c5,c6,c7,c8⟩,_⟩:=cells9 HN.out;have hlt3:=HN.out.lt;clear hb3 ho3 Q2 hc hf;go_wp2_with fail
 refine(QC.out _ _ _ _ _ _ _ _ w3).mono ?_;rintro e w4 ⟨rfl,hb4⟩;have HB5:=bt_ HB4 hb4;have HP4:=hi_ (HP3.out.below hb4);have HN4:=hi_ (HN.out.below hb4);obtain⟨hc,hf⟩:=cells_of HP4.out;have p0:w4.cell? ⟨w.heap.size,0,none⟩=some (.int .i64 z):=hc 0;have p1:w4.cell? ⟨w.heap.size,1,none⟩=some (.int .i64 k):=hc 1;obtain⟨⟨c0,c1,c2,c3,c4,c5,c6,c7,c8⟩,_⟩:=cells9 HN4.out;clear hb4 QC hc hf
 by_cases hch:2<kd
 ·have hkd:kd=3\/kd=4:=by have:=HK4.out;omega
  have e1:(((kd:Nat):Int)==3 || ((kd:Nat):Int)==4)=true:=by rcases hkd with h|h<;>simp[h]
  have HSz2:Hid (sz=(U.pts dt).length):=hi_ (by rw[HSz.out,if_pos hch]);rw[e1];have QL:=hi_ (Go.Proofs.YtinphfpdfodkkaaGreatDoor.T.Len ⟨dt.toArray⟩ w4 (by show dt.toArray.size<=_;rw[List.size_toArray];exact Nat.le_trans hd_ (by omega)));rw[show(⟨dt.toArray⟩:ByteArray).data.toList=dt by simp]at QL;generalize (U.pts dt).length=n at *;clear hch hkd e1;go_wp2_with fail
  refine QL.out.mono ?_;rintro e w5 ⟨rfl,hb5⟩;have HB6:=bt_ HB5 hb5;obtain⟨hc,hf⟩:=cells_of (HP4.out.below hb5);have q0:w5.cell? ⟨w.heap.size,0,none⟩=some (.int .i64 z):=hc 0;have q1:w5.cell? ⟨w.heap.size,1,none⟩=some (.int .i64 k):=hc 1;clear hb5 hc hf p0 p1 c0 c1 c2 c3 c4 c5 c6 c7 c8
  by_cases g1:k<0
  ·have HO:Hid (ok=false):=hi_ (by rw[HZ1.out,decide_eq_false (by omega)];rfl)
   go_wp2_with fail
   go_ret
   exact⟨ret_i64 (a:=2) (by rw[<-HRes.out,HO.out];rfl),HB6.out⟩
  ·by_cases g2:(n:Int)<k
   ·have HO:Hid (ok=false):=hi_ (by rw[HZ1.out,HSz2.out,decide_eq_false (p:=k<=_) (by omega),Bool.and_false])
    go_wp2_with fail
    go_ret
    exact⟨ret_i64 (a:=2) (by rw[<-HRes.out,HO.out];rfl),HB6.out⟩
   ·have HO:Hid (ok=true):=hi_ (by rw[HZ1.out,HSz2.out,decide_eq_true (by omega),decide_eq_true (by omega)];rfl)
    go_wp2_with fail
    go_ret
    exact⟨ret_i64 (a:=0) (by rw[<-HRes.out,HO.out];rfl),HB6.out⟩
 ·have e1:(((kd:Nat):Int)==3 || ((kd:Nat):Int)==4)=false:=by
   have h3:¬((kd:Nat):Int)=3:=by omega
   have h4:¬((kd:Nat):Int)=4:=by omega
   simp[h3,h4]
  have HSz2:Hid (sz=kl.length):=hi_ (by rw[HSz.out,if_neg hch]);rw[e1];generalize kl.length=n at *;clear hch e1
  by_cases g1:k<0
  ·have HO:Hid (ok=false):=hi_ (by rw[HZ1.out,decide_eq_false (by omega)];rfl)
   go_wp2_with fail
   go_ret
   exact⟨ret_i64 (a:=2) (by rw[<-HRes.out,HO.out];rfl),HB5.out⟩
  ·by_cases g2:(n:Int)<k
   ·have HO:Hid (ok=false):=hi_ (by rw[HZ1.out,HSz2.out,decide_eq_false (p:=k<=_) (by omega),Bool.and_false])
    go_wp2_with fail
    go_ret
    exact⟨ret_i64 (a:=2) (by rw[<-HRes.out,HO.out];rfl),HB5.out⟩
   ·have HO:Hid (ok=true):=hi_ (by rw[HZ1.out,HSz2.out,decide_eq_true (by omega),decide_eq_true (by omega)];rfl)
    go_wp2_with fail
    go_ret
    exact⟨ret_i64 (a:=0) (by rw[<-HRes.out,HO.out];rfl),HB5.out⟩
end A
end
section
open Go.RowKit Go.Sort
namespace A
open H G
theorem sib_facts{T:TMem}{m:Model}{pos:Nat->Nat}(F:Fits T m pos){h p:Nat}(hh:has m h=true)(hp:(nd m h).parent=some p) :
  (∀a,prevSib m h=some a->has m a=true/\a≠h/\a≠p/\nextSib m h≠some a)/\(∀b,nextSib m h=some b->has m b=true/\b≠h/\b≠p)/\h≠p/\has m p=true:=by
 have W:=F.wf;have hph:=has_up W hh hp;have hm:=(W.par h p hp).2;have hlt:=List.idxOf_lt_length_of_mem hm;have hnd:=W.nodup p;have hpr:prevSib m h=prevSib.prevAt2 (nd m p).kids ((nd m p).kids.idxOf h):=by unfold prevSib;rw[hp]
 have hnx:nextSib m h=(nd m p).kids[(nd m p).kids.idxOf h+1]?:=by unfold nextSib;rw[hp]
 have hat:=at_idx hm;have hne:=W.ne_parent hp;have kne:∀x,x∈(nd m p).kids->x≠p:=fun x hx e=>by
  have:=(W.kid p x hx).2;rw[e]at this;exact W.ne_parent this rfl
 have inj:∀{i j x:Nat},(nd m p).kids[i]?=some x->(nd m p).kids[j]?=some x->i=j:=fun {i j x} h1 h2=>by
  have hi:i<(nd m p).kids.length:=by
   rcases Nat.lt_or_ge i (nd m p).kids.length with h3|h3
   ·exact h3
   ·rw[List.getElem?_eq_none h3]at h1;cases h1
  exact(List.getElem?_inj hi hnd).1 (h1.trans h2.symm)
 refine⟨fun a ha=>?_,fun b hb=>?_,hne,hph⟩
 ·rw[hpr]at ha
  unfold prevSib.prevAt2 at ha
  split at ha
  ·cases ha
  ·rename_i h0
   have hma:=List.mem_of_getElem? ha;refine⟨has_kid F hph hma,fun e=>?_,kne a hma,fun e=>?_⟩
   ·rw[e]at ha
    have:=inj ha hat;omega
   ·rw[hnx]at e
    have:=inj ha e;omega
 ·rw[hnx]at hb
  have hmb:=List.mem_of_getElem? hb;refine⟨has_kid F hph hmb,fun e=>?_,kne b hmb⟩;rw[e]at hb;have:=inj hb hat;omega
def un1(T:TMem)(m:Model)(pos:Nat->Nat)(h p:Nat):TMem:=match prevSib m h with
 |none=>T.modS (pos p) fun r=>{ r with first:=hdO T pos (nextSib m h) }
 |some a=>T.modS (pos a) fun r=>{ r with next:=hdO T pos (nextSib m h) }
def un2(T T1:TMem)(m:Model)(pos:Nat->Nat)(h p:Nat):TMem:=match nextSib m h with
 |none=>T1.modS (pos p) fun r=>{ r with last:=hdO T pos (prevSib m h) }
 |some b=>T1.modS (pos b) fun r=>{ r with prev:=hdO T pos (prevSib m h) }
def un3(T:TMem)(s:Nat):TMem:=((T.modS s fun r=>{ r with parent:=0 }).modS s fun r=>{ r with prev:=0 }).modS s fun r=>{ r with next:=0 }
structure Like(T T':TMem):Prop where
 tb:T'.tb=T.tb
 g:T'.g=T.g
 bs:T'.bs=T.bs
 st:T'.st=T.st
 len:T'.slots.length=T.slots.length
 frees:T'.frees=T.frees
 live:T'.live=T.live
 root:T'.root=T.root
 B:T'.B=T.B
 freeV:T'.freeV=T.freeV
 used:∀s,(T'.sl s).used=(T.sl s).used
 ptr:∀o z,T'.ptr o z=T.ptr o z
theorem Like.refl(T:TMem):Like T T:=⟨rfl,rfl,rfl,rfl,rfl,rfl,rfl,rfl,rfl,rfl,fun _=>rfl,fun _ _=>rfl⟩
theorem Like.trans{T T1 T2:TMem}(h:Like T T1)(k:Like T1 T2):Like T T2:=
 ⟨k.tb.trans h.tb,k.g.trans h.g,k.bs.trans h.bs,k.st.trans h.st,k.len.trans h.len,k.frees.trans h.frees,k.live.trans h.live,k.root.trans h.root,k.B.trans h.B,k.freeV.trans h.freeV,fun s=>(k.used s).trans (h.used s),fun o z=>(k.ptr o z).trans (h.ptr o z)⟩
theorem Like.modS(T:TMem)(s:Nat){f:Slot->Slot}(hf:∀r,(f r).used=r.used):Like T (T.modS s f):=
 ⟨rfl,rfl,rfl,rfl,modS_len T s f,rfl,rfl,rfl,rfl,rfl,fun i=>sl_used hf i,fun o z=>ptr_modS hf o z⟩
theorem Like.un1(T:TMem)(m:Model)(pos:Nat->Nat)(h p:Nat):Like T (un1 T m pos h p):=by
 unfold A.un1
 cases prevSib m h with
 |none=>exact Like.modS _ _ (fun r=>rfl)
 |some a=>exact Like.modS _ _ (fun r=>rfl)
theorem Like.un2(T T1:TMem)(m:Model)(pos:Nat->Nat)(h p:Nat):Like T1 (un2 T T1 m pos h p):=by
 unfold A.un2
 cases nextSib m h with
 |none=>exact Like.modS _ _ (fun r=>rfl)
 |some a=>exact Like.modS _ _ (fun r=>rfl)
theorem Like.un3(T:TMem)(s:Nat):Like T (un3 T s):=((Like.modS T s (f:=fun r=>{ r with parent:=0 }) (fun r=>rfl)).trans (Like.modS _ s (f:=fun r=>{ r with prev:=0 }) (fun r=>rfl))).trans (Like.modS _ s (f:=fun r=>{ r with next:=0 }) (fun r=>rfl))
section
variable {T:TMem} {m:Model} {pos:Nat->Nat}
theorem pos_ne(F:Fits T m pos){i j:Nat}(hi:has m i=true)(hj:has m j=true)(h:i≠j):pos i≠pos j:=fun e=>h (F.inj i j hi hj e)
theorem Fits.inS(F:Fits T m pos){T1:TMem}(L:Like T T1){i:Nat}(hi:has m i=true):pos i<T1.slots.length:=by rw[L.len];exact F.lt i hi
theorem sl_node(F:Fits T m pos){T1:TMem}(L:Like T T1){i j:Nat}(hi:has m i=true)(hj:has m j=true)(f:Slot->Slot):(T1.modS (pos j) f).sl (pos i)=if i=j then f (T1.sl (pos i))else T1.sl (pos i):=by
 rw[sl_modS (F.inS L hj)]
 by_cases e:i=j
 ·rw[if_pos (by rw[e]),if_pos e]
 ·rw[if_neg (pos_ne F hi hj e),if_neg e]
theorem un1_sl(F:Fits T m pos){h p:Nat}(hh:has m h=true)(hp:(nd m h).parent=some p){i:Nat}(hi:has m i=true) :
  (un1 T m pos h p).sl (pos i)={ T.sl (pos i)with first:=if i=p/\prevSib m h=none then hdO T pos (nextSib m h) else(T.sl (pos i)).first,next:=if prevSib m h=some i then hdO T pos (nextSib m h) else(T.sl (pos i)).next }:=by
 obtain⟨h1,h2,h3,h4⟩:=sib_facts F hh hp;unfold un1
 cases hps:prevSib m h with
 |none=>
  dsimp only;rw[sl_node F (Like.refl T) hi h4]
  by_cases e:i=p<;>simp[e]
 |some a=>
  dsimp only;rw[sl_node F (Like.refl T) hi (h1 a hps).1]
  by_cases e:i=a
  ·simp[e]
  ·have e':¬a=i:=fun h=>e h.symm
   simp[e,e']
theorem un2_sl(F:Fits T m pos){h p:Nat}(hh:has m h=true)(hp:(nd m h).parent=some p){T1:TMem}(L:Like T T1){i:Nat}(hi:has m i=true) :
  (un2 T T1 m pos h p).sl (pos i)={ T1.sl (pos i)with last:=if i=p/\nextSib m h=none then hdO T pos (prevSib m h) else(T1.sl (pos i)).last,prev:=if nextSib m h=some i then hdO T pos (prevSib m h) else(T1.sl (pos i)).prev }:=by
 obtain⟨h1,h2,h3,h4⟩:=sib_facts F hh hp;unfold un2
 cases hps:nextSib m h with
 |none=>
  dsimp only;rw[sl_node F L hi h4]
  by_cases e:i=p<;>simp[e]
 |some a=>
  dsimp only;rw[sl_node F L hi (h2 a hps).1]
  by_cases e:i=a
  ·simp[e]
  ·have e':¬a=i:=fun h=>e h.symm
   simp[e,e']
theorem un3_sl(F:Fits T m pos){h:Nat}(hh:has m h=true){T1:TMem}(L:Like T T1){i:Nat}(hi:has m i=true) :
  (un3 T1 (pos h)).sl (pos i)=if i=h then { T1.sl (pos i)with parent:=0,prev:=0,next:=0 } else T1.sl (pos i):=by
 unfold un3;have L1:=L.trans (Like.modS T1 (pos h) (f:=fun r=>{ r with parent:=0 }) (fun r=>rfl));have L2:=L1.trans (Like.modS _ (pos h) (f:=fun r=>{ r with prev:=0 }) (fun r=>rfl));rw[sl_node F L2 hi hh,sl_node F L1 hi hh,sl_node F L hi hh]
 by_cases e:i=h<;>simp[e]
theorem unlink_cutted(F:Fits T m pos){h p:Nat}(hh:has m h=true)(hp:(nd m h).parent=some p) :
  Cutted T (un3 (un2 T (un1 T m pos h p) m pos h p) (pos h)) m pos h p:=by
 obtain⟨h1,h2,h3,h4⟩:=sib_facts F hh hp;have L1:=Like.un1 T m pos h p;have L2:=L1.trans (Like.un2 T (un1 T m pos h p) m pos h p);have L:=L2.trans (Like.un3 (un2 T (un1 T m pos h p) m pos h p) (pos h));have hsl:∀i,has m i=true->(un3 (un2 T (un1 T m pos h p) m pos h p) (pos h)).sl (pos i)=if i=h then { (un2 T (un1 T m pos h p) m pos h p).sl (pos i)with parent:=0,prev:=0,next:=0 } else(un2 T (un1 T m pos h p) m pos h p).sl (pos i):=fun i hi=>un3_sl F hh L2 hi
 have hs2:=fun i (hi:has m i=true)=>un2_sl F hh hp L1 hi;have hs1:=fun i (hi:has m i=true)=>un1_sl F hh hp hi;refine⟨L.bs,L.st,L.len,L.frees,L.live,L.root,L.used,fun i hi=>?_,fun i hi=>?_,fun i hi=>?_,fun i hi=>?_,fun i hi=>?_,fun i hi=>?_⟩
 ·rw[hsl i hi,hs2 i hi,hs1 i hi];split<;>simp
 ·rw[hsl i hi,hs2 i hi,hs1 i hi];split<;>simp_all
 ·rw[hsl i hi,hs2 i hi,hs1 i hi];split<;>simp_all
 ·rw[hsl i hi,hs2 i hi,hs1 i hi];split<;>simp_all
 ·rw[hsl i hi,hs2 i hi,hs1 i hi];split<;>simp_all
 ·rw[hsl i hi,hs2 i hi,hs1 i hi];split<;>simp_all
end
end A
end
section
open Go.RowKit Go.Sort
namespace A
open H G
theorem rec_at2{w2 w3:World}(b:Below ((w2.alloc (.cells #[.int .i64 0,.int .i64 0,.int .i64 0,.int .i64 0,.int .i64 0,.int .i64 0,.string ⟨#[]⟩,.string ⟨#[]⟩,.bool false,.int .i64 0,.int .i64 0] 73)).drew).heap.size ((w2.alloc (.cells #[.int .i64 0,.int .i64 0,.int .i64 0,.int .i64 0,.int .i64 0,.int .i64 0,.string ⟨#[]⟩,.string ⟨#[]⟩,.bool false,.int .i64 0,.int .i64 0] 73)).drew) w3):Blk w2.heap.size #[.int .i64 0,.int .i64 0,.int .i64 0,.int .i64 0,.int .i64 0,.int .i64 0,.string ⟨#[]⟩,.string ⟨#[]⟩,.bool false,.int .i64 0,.int .i64 0] 73 w3:=by
 have h:Blk w2.heap.size #[.int .i64 0,.int .i64 0,.int .i64 0,.int .i64 0,.int .i64 0,.int .i64 0,.string ⟨#[]⟩,.string ⟨#[]⟩,.bool false,.int .i64 0,.int .i64 0] 73 (w2.alloc (.cells #[.int .i64 0,.int .i64 0,.int .i64 0,.int .i64 0,.int .i64 0,.int .i64 0,.string ⟨#[]⟩,.string ⟨#[]⟩,.bool false,.int .i64 0,.int .i64 0] 73)).drew:=Blk.new w2 #[.int .i64 0,.int .i64 0,.int .i64 0,.int .i64 0,.int .i64 0,.int .i64 0,.string ⟨#[]⟩,.string ⟨#[]⟩,.bool false,.int .i64 0,.int .i64 0] 73;exact h.below b
theorem TreeMem.beside{w w':World}{T:TMem}(h:TreeMem w T){b:Nat}{cs:Array Value}{t:TypeId}(hb:Blk b cs t w)(f:H.Frame (fun k=>k=b) w w')(h1:92≠t)(h2:210≠t)(h3:3≠t)(h4:142≠t):TreeMem w' T:=
 ⟨h.blk.frame f (fun e=>h1 (by have e:T.tb=b:=e;have h5:=h.blk;rw[e]at h5;exact blk_type h5 hb)),own_frame h.row f (fun g hg e=>own_not h.row hb h2 (by rw[hg];exact congrArg some e)),h.few,h.bb,own_frame h.free f (fun g hg e=>own_not h.free hb h3 (by rw[hg];exact congrArg some e)),fun r hr=>own_frame (h.attrs r hr) f (fun g hg e=>own_not (h.attrs r hr) hb h4 (by rw[hg];exact congrArg some e))⟩
theorem TreeMem.links{w:World}{T:TMem}(h:TreeMem w T){s:Nat}(hs:s<T.slots.length) :
  w.cell? ⟨T.g,s*10+1,none⟩=some (.int .i64 ((T.sl s).kind:Nat))/\w.cell? ⟨T.g,s*10+5,none⟩=some (.int .i64 (T.sl s).parent)/\w.cell? ⟨T.g,s*10+6,none⟩=some (.int .i64 (T.sl s).first)/\w.cell? ⟨T.g,s*10+7,none⟩=some (.int .i64 (T.sl s).last)/\w.cell? ⟨T.g,s*10+8,none⟩=some (.int .i64 (T.sl s).prev)/\w.cell? ⟨T.g,s*10+9,none⟩=some (.int .i64 (T.sl s).next):=
 ⟨(h.cell hs (k:=1) (by omega)).1,(h.cell hs (k:=5) (by omega)).1,(h.cell hs (k:=6) (by omega)).1,(h.cell hs (k:=7) (by omega)).1,(h.cell hs (k:=8) (by omega)).1,(h.cell hs (k:=9) (by omega)).1⟩
theorem frG{g:Nat}{w w':World}(h:H.Frame (fun k=>k=g) w w')(o:Nat)(v:Value):H.Frame (fun k=>k=g) w (w'.setCell ⟨g,o,none⟩ v):=h.set (Or.inl rfl) o v
theorem un1_self{T:TMem}{m:Model}{pos:Nat->Nat}(F:Fits T m pos){h p:Nat}(hh:has m h=true)(hp:(nd m h).parent=some p):(un1 T m pos h p).sl (pos h)=T.sl (pos h):=by
 obtain⟨h1,h2,h3,h4⟩:=sib_facts F hh hp;rw[un1_sl F hh hp hh];have e1:¬(h=p/\prevSib m h=none):=fun e=>h3 e.1;have e2:¬prevSib m h=some h:=fun e=>(h1 h e).2.1 rfl;rw[if_neg e1,if_neg e2]
theorem un2_self{T:TMem}{m:Model}{pos:Nat->Nat}(F:Fits T m pos){h p:Nat}(hh:has m h=true)(hp:(nd m h).parent=some p){T1:TMem}(L:Like T T1):(un2 T T1 m pos h p).sl (pos h)=T1.sl (pos h):=by
 obtain⟨h1,h2,h3,h4⟩:=sib_facts F hh hp;rw[un2_sl F hh hp L hh];have e1:¬(h=p/\nextSib m h=none):=fun e=>h3 e.1;have e2:¬nextSib m h=some h:=fun e=>(h2 h e).2.1 rfl;rw[if_neg e1,if_neg e2]
theorem TreeMem.free_{w:World}{T:TMem}(h:TreeMem w T){s:Nat}(hs:s<T.slots.length){k:Nat}(hk:k<10):w.frozen? ⟨T.g,s*10+k,none⟩=false:=(h.cell hs hk).2
theorem unlink_(T:TMem)(m:Model)(pos:Nat->Nat)(h p:Nat)(w:World)(hT:TreeIs w T m pos)(hh:has m h=true)(hp:(nd m h).parent=some p) :
  Calls Tryz.prog 117 #[.pointer (some ⟨T.tb,0,none⟩),.int .i64 (hd T pos h)] w fun e w'=>∃T',e=.returned (.agg (rcells T pos (cutRec m h p)).toArray)/\H.Frame (fun k=>k=T.g) w w'/\Like T T'/\TreeIs w' T' (cut m h p) pos:=by
 have hF:=hT.fits;have hfew:=hT.mem.few;obtain⟨hps,hns,hne,hph⟩:=sib_facts hF hh hp;have HT:=hi_ hT;have HPs:=hi_ hps;have HNs:=hi_ hns;have HC:=hi_ (unlink_cutted hF hh hp);have HFin:=hi_ (fun T' (C:Cutted T T' m pos h p)=>hF.cut hh hp C);have QA:=hi_ (fun(y:Nat) (hy:has m y=true) (T1:TMem) (L:Like T T1) W (hW:TreeMem W T1)=>(by
  have h1:=at_ T1 (hd T pos y) W hW (by have:=hd_pos (T:=T) (pos:=pos) y;omega) (by have:=hd_big hfew hF hy;omega);rw[L.ptr,ptr_hd hfew hF hy 1,L.tb]at h1;exact h1:Calls Tryz.prog 83 #[.pointer (some ⟨T.tb,0,none⟩),.int .i64 (hd T pos y)] W fun e w'=>e=.returned (.pointer (some ⟨T.g,pos y*10+1,none⟩))/\Below W.heap.size W w'))
 have QI:=hi_ (fun W (hb:Below w.heap.size w W)=>index_some T m pos h p W (hT.below hb) hh hp);have L1:=hi_ (Like.un1 T m pos h p);have S0:=hi_ (hF.lt h hh);have S1:=hi_ (hF.lt p hph);have e5:(T.sl (pos h)).parent=hd T pos p:=by rw[hF.parent h hh,hp];rfl
 have e8:(T.sl (pos h)).prev=hdO T pos (prevSib m h):=hF.prev h hh;have e9:(T.sl (pos h)).next=hdO T pos (nextSib m h):=hF.next h hh;have E5:=hi_ e5;have E8:=hi_ e8;have E9:=hi_ e9;have hB1:=(Below.refl w.heap.size w).alloc (Nat.le_refl _) (.cells #[.int .i64 0,.int .i64 0,.int .i64 0,.int .i64 0,.int .i64 0,.int .i64 0,.string ⟨#[]⟩,.string ⟨#[]⟩,.bool false,.int .i64 0,.int .i64 0] 73);have HB1:=hi_ hB1;have HR1:=hi_ (Blk.new w #[.int .i64 0,.int .i64 0,.int .i64 0,.int .i64 0,.int .i64 0,.int .i64 0,.string ⟨#[]⟩,.string ⟨#[]⟩,.bool false,.int .i64 0,.int .i64 0] 73);have Q1:=hi_ (QA.out h hh T (Like.refl T) _ (hT.below hB1).mem);have HH:=hi_ hh;have HPh:=hi_ hph;have HNe:=hi_ hne;have HPp:=hi_ hp;clear hT hp hps hns hne e5 e8 e9 hB1
 go_enter Tryz.func117,Tryz.ntmps117
 go_wp2_with fail
 refine Q1.out.mono ?_;rintro e w2 ⟨rfl,hb2⟩;have HB2:=bt_ HB1 hb2;have HR2:=hi_ (HR1.out.below hb2);clear hb2 Q1 HB1 HR1;have hT2:=HT.out.below HB2.out;obtain⟨c1,c5,c6,c7,c8,c9⟩:=hT2.mem.links S0.out;rw[E5.out]at c5;rw[E8.out]at c8;rw[E9.out]at c9;clear c1 c6 c7 hT2;go_upto_region 2 with fail
 generalize hix:(nd m p).kids.idxOf h=ix at QI;have HIX:=hi_ hix;clear hix
 go_cut [6] (fun s6 wx=>∃A,s6=.pointer (some ⟨A,0,none⟩)/\w.heap.size<A/\Hid (Blk A #[.int .i64 2,.int .i64 (hd T pos p),.int .i64 (hd T pos h),.int .i64 (hdO T pos (prevSib m h)),.int .i64 (hdO T pos (nextSib m h)),.int .i64 (ix:Nat),.string ⟨#[]⟩,.string ⟨#[]⟩,.bool false,.int .i64 0,.int .i64 0] 73 wx)/\Hid (Below w.heap.size w wx)/\Hid (Blk w.heap.size #[.int .i64 0,.int .i64 0,.int .i64 0,.int .i64 0,.int .i64 0,.int .i64 0,.string ⟨#[]⟩,.string ⟨#[]⟩,.bool false,.int .i64 0,.int .i64 0] 73 wx))
 case first=>
  have HZ2:=hi_ HB2.out.size;have HSS:Hid (∀w',Below w.heap.size w w'->Below w.heap.size w w'/\w'.cell? ⟨T.g,pos h*10+5,none⟩=some (.int .i64 (hd T pos p))/\w'.cell? ⟨T.g,pos h*10+8,none⟩=some (.int .i64 (hdO T pos (prevSib m h)))/\w'.cell? ⟨T.g,pos h*10+9,none⟩=some (.int .i64 (hdO T pos (nextSib m h)))):=hi_ (fun w' hB=>by
   obtain⟨d1,d5,d6,d7,d8,d9⟩:=(HT.out.below hB).mem.links S0.out;rw[E5.out]at d5;rw[E8.out]at d8;rw[E9.out]at d9;exact⟨hB,d5,d8,d9⟩)
  have QJ:Hid (∀W,(Below w.heap.size w W/\W.cell? ⟨T.g,pos h*10+5,none⟩=some (.int .i64 (hd T pos p))/\W.cell? ⟨T.g,pos h*10+8,none⟩=some (.int .i64 (hdO T pos (prevSib m h)))/\W.cell? ⟨T.g,pos h*10+9,none⟩=some (.int .i64 (hdO T pos (nextSib m h))))->Calls Tryz.prog 87 #[.pointer (some ⟨T.tb,0,none⟩),.int .i64 (hd T pos h)] W fun e w'=>e=.returned (.int .i64 (ix:Nat))/\Below W.heap.size W w'/\Below w.heap.size w w'/\w'.cell? ⟨T.g,pos h*10+5,none⟩=some (.int .i64 (hd T pos p))/\w'.cell? ⟨T.g,pos h*10+8,none⟩=some (.int .i64 (hdO T pos (prevSib m h)))/\w'.cell? ⟨T.g,pos h*10+9,none⟩=some (.int .i64 (hdO T pos (nextSib m h)))):=hi_ (fun W hW=>(QI.out W hW.1).mono (fun e w' he=>⟨he.1,he.2,HSS.out w' (hW.1.trans (he.2.mono hW.1.size))⟩));have HBd:=hi_ HB2.out.drew
  have HBx:=hi_ (show Below w.heap.size w (w2.alloc (.cells #[.int .i64 0,.int .i64 0,.int .i64 0,.int .i64 0,.int .i64 0,.int .i64 0,.string ⟨#[]⟩,.string ⟨#[]⟩,.bool false,.int .i64 0,.int .i64 0] 73)).drew from (HB2.out.alloc HB2.out.size _).drew);clear QI c5 c8 c9
  go_region_held3 (fun w'=>Below w.heap.size w w'/\w'.cell? ⟨T.g,pos h*10+5,none⟩=some (.int .i64 (hd T pos p))/\w'.cell? ⟨T.g,pos h*10+8,none⟩=some (.int .i64 (hdO T pos (prevSib m h)))/\w'.cell? ⟨T.g,pos h*10+9,none⟩=some (.int .i64 (hdO T pos (nextSib m h)))) (first|with_reducible assumption|with_reducible exact HSS.out _ (HS3.out.alloc HS3.out.size _)|with_reducible exact HSS.out _ (bset (bset (bset (bset (bset (bset (bset (bset (bset (bset (bset HS3.out HZ2.out) HZ2.out) HZ2.out) HZ2.out) HZ2.out) HZ2.out) HZ2.out) HZ2.out) HZ2.out) HZ2.out) HZ2.out)|with_reducible exact HSS.out _ HBd.out|with_reducible exact HSS.out _ HBx.out)
   (first|(go_at_call 87;refine(QJ.out _ (by with_reducible assumption)).mono ?_;rintro e w3 ⟨rfl,b3,hS3⟩;have HS3:=hi_ hS3.1;have HR3:=hi_ (fun(hx:Blk w.heap.size #[.int .i64 0,.int .i64 0,.int .i64 0,.int .i64 0,.int .i64 0,.int .i64 0,.string ⟨#[]⟩,.string ⟨#[]⟩,.bool false,.int .i64 0,.int .i64 0] 73 _)=>hx.below b3);(try (have hz:=rec_at2 b3;obtain⟨⟨k0,k1,k2,k3,k4,k5,k6,k7,k8,k9,k10⟩,⟨f0,f1,f2,f3,f4,f5,f6,f7,f8,f9,f10⟩⟩:=cells11 hz;have HZ:=hi_ hz;clear hz));clear b3))
  ·have hr3:Blk w.heap.size #[.int .i64 0,.int .i64 0,.int .i64 0,.int .i64 0,.int .i64 0,.int .i64 0,.string ⟨#[]⟩,.string ⟨#[]⟩,.bool false,.int .i64 0,.int .i64 0] 73 w3:=HR3.out HR2.out
   have hlt:=hr3.lt;go_wp2_with fail
   go_meet
   exact⟨_,rfl,hlt,hi_ (Blk.new w3 _ _),hi_ (HS3.out.alloc HS3.out.size _),hi_ (hr3.alloc _)⟩
  ·have hr3:Blk w.heap.size #[.int .i64 0,.int .i64 0,.int .i64 0,.int .i64 0,.int .i64 0,.int .i64 0,.string ⟨#[]⟩,.string ⟨#[]⟩,.bool false,.int .i64 0,.int .i64 0] 73 w3:=HR3.out (HR2.out.alloc _)
   have hlt:=HR2.out.lt;go_wp2_with fail
   go_meet
   exact⟨_,rfl,hlt,hi_ (Blk.set11 HZ.out _ _ _ _ _ _ _ _ _ _ _),hi_ (below_set11 HS3.out HZ2.out _ _ _ _ _ _ _ _ _ _ _),hi_ (Blk.far11 hr3 (Nat.ne_of_lt hlt) _ _ _ _ _ _ _ _ _ _ _)⟩
 case rest=>
  obtain⟨A,rfl,hA,HRA,HB3,HR3⟩:=hcut;clear HB2 HR2;have hT3:=HT.out.below HB3.out;obtain⟨_,c5,_,_,_,_⟩:=hT3.mem.links S0.out;rw[E5.out]at c5;have Q2:=hi_ (QA.out p HPh.out T (Like.refl T) _ hT3.mem);clear hT3;go_wp2_with fail
  refine Q2.out.mono ?_;rintro e w4 ⟨rfl,hb4⟩;have HB4:=bt_ HB3 hb4;have HRA4:=hi_ (HRA.out.below hb4);have HR4:=hi_ (HR3.out.below hb4);clear hb4 Q2 HB3 HRA HR3 c5;have hT4:=HT.out.below HB4.out;obtain⟨_,c5,_,_,c8,c9⟩:=hT4.mem.links S0.out;rw[E8.out]at c8;rw[E9.out]at c9;have HT4:=hi_ hT4.mem;clear c5 hT4
  go_upto_if 38 with fail
  go_cut [] (fun wx=>Hid (TreeMem wx (un1 T m pos h p))/\Hid (H.Frame (fun k=>k=T.g) w wx)/\Hid (Blk A #[.int .i64 2,.int .i64 (hd T pos p),.int .i64 (hd T pos h),.int .i64 (hdO T pos (prevSib m h)),.int .i64 (hdO T pos (nextSib m h)),.int .i64 (ix:Nat),.string ⟨#[]⟩,.string ⟨#[]⟩,.bool false,.int .i64 0,.int .i64 0] 73 wx)/\Hid (Blk w.heap.size #[.int .i64 0,.int .i64 0,.int .i64 0,.int .i64 0,.int .i64 0,.int .i64 0,.string ⟨#[]⟩,.string ⟨#[]⟩,.bool false,.int .i64 0,.int .i64 0] 73 wx))
  case first=>
   cases hps:prevSib m h with
   |none=>
    rw[hps]at c8;have k8:w4.cell? ⟨T.g,pos h*10+8,none⟩=some (.int .i64 0):=c8;have k6:=(HT4.out.cell S1.out (k:=6) (by omega)).1;have f6:=HT4.out.free_ S1.out (k:=6) (by omega);have k6':w4.cell? ⟨T.g,pos p*10+6,none⟩=some (.int .i64 (T.sl (pos p)).first):=k6;have hst:=HT4.out.store S1.out (k:=6) (by omega) (.int .i64 (hdO T pos (nextSib m h))) (fun r=>{ r with first:=hdO T pos (nextSib m h) }) rfl (fun r=>⟨rfl,rfl⟩);have hun:un1 T m pos h p=T.modS (pos p) fun r=>{ r with first:=hdO T pos (nextSib m h) }:=by unfold un1;rw[hps]
    have HST:=hi_ hst;have HUN:=hi_ hun;have hg1:A≠T.g:=fun e=>own_not HT4.out.row HRA4.out (by decide) (by rw[e];rfl);have hg2:w.heap.size≠T.g:=fun e=>own_not HT4.out.row HR4.out (by decide) (by rw[e];rfl);have HG1:=hi_ hg1;have HG2:=hi_ hg2;clear c8 k6 hst hun hg1 hg2 hps;go_wp2_with fail
    go_meet
    refine⟨hi_ ?_,hi_ (frG (H.Frame.of HB4.out) _ _),hi_ (HRA4.out.far HG1.out _ _),hi_ (HR4.out.far HG2.out _ _)⟩;rw[HUN.out];exact HST.out
   |some a=>
    obtain⟨ha1,ha2,ha3,ha4⟩:=HPs.out a hps;rw[hps]at c8;have k8:w4.cell? ⟨T.g,pos h*10+8,none⟩=some (.int .i64 (hd T pos a)):=c8;have hne1:¬hd T pos a=0:=by have:=hd_pos (T:=T) (pos:=pos) a;omega
    have hne0:(hd T pos a==0)=false:=beq_eq_false_iff_ne.2 hne1;have hne2:(hdO T pos (some a) != 0)=true:=bne_iff_ne.2 hne1;have hne3:¬hdO T pos (some a)=0:=hne1;have hne4:(hdO T pos (some a)==0)=false:=hne0;have S2:=hi_ (hF.lt a ha1);have hlg4:=(ownsRow_open HT4.out.row).1;have D8:=lc_ k8 hlg4;have D9:=lc_ c9 hlg4;have QAa:=hi_ (fun(d:Later w4.heap.size w4)=>QA.out a ha1 T (Like.refl T) d.w (HT4.out.below d.h));have HUN:Hid (un1 T m pos h p=T.modS (pos a) fun r=>{ r with next:=hdO T pos (nextSib m h) }):=hi_ (by unfold un1;rw[hps]);clear c8 ha1 ha2 ha3 ha4 hps;go_wp2_with fail
    refine wp_region_later_tail 10 (by kernel_rfl) (by kernel_rfl) ?_;simp only[List.take_succ_cons,List.take_zero,List.drop_succ_cons,List.drop_zero];repeat (go_big_quiet_step ((go_at_call 83;exact Calls.later (QAa.out _))))
    refine wq_ (fun dq=>?_);have hT5:=HT4.out.below dq.h;have k9:dq.w.cell? ⟨T.g,pos a*10+9,none⟩=some (.int .i64 (T.sl (pos a)).next):=(hT5.cell S2.out (k:=9) (by omega)).1;have f9:=hT5.free_ S2.out (k:=9) (by omega);have HST:=hi_ (hT5.store S2.out (k:=9) (by omega) (.int .i64 (hdO T pos (nextSib m h))) (fun r=>{ r with next:=hdO T pos (nextSib m h) }) rfl (fun r=>⟨rfl,rfl⟩));have HG1:=hi_ (fun e=>own_not HT4.out.row HRA4.out (by decide) (by rw[e];rfl):A≠T.g);have HG2:=hi_ (fun e=>own_not HT4.out.row HR4.out (by decide) (by rw[e];rfl):w.heap.size≠T.g);have HB5:=bt_ HB4 dq.h;have HRA5:=hi_ (HRA4.out.below dq.h);have HR5:=hi_ (HR4.out.below dq.h);clear D8 D9 k8 c9 hlg4 hT5;go_wp2_with fail
    go_meet
    refine⟨hi_ ?_,hi_ (frG (H.Frame.of HB5.out) _ _),hi_ (HRA5.out.far HG1.out _ _),hi_ (HR5.out.far HG2.out _ _)⟩;rw[HUN.out];exact HST.out
  case rest=>
   obtain⟨HM1,HF1,HRA1,HR1⟩:=hcut;clear HB4 HRA4 HR4 HT4 c8 c9;have HS1:=hi_ (un1_self hF HH.out HPp.out);have HUn2:=hi_ (fun(T1:TMem) (L:Like T T1)=>un2_self hF HH.out HPp.out L);obtain⟨T1,hT1⟩:∃T1,T1=un1 T m pos h p:=⟨_,rfl⟩;rw[<-hT1]at HM1 HC L1 HS1;have S01:=hi_ (show pos h<T1.slots.length by rw[L1.out.len];exact S0.out);have S11:=hi_ (show pos p<T1.slots.length by rw[L1.out.len];exact S1.out);obtain⟨_,_,_,_,c8,c9⟩:=HM1.out.links S01.out;rw[HS1.out,L1.out.g]at c8 c9;rw[E8.out]at c8;rw[E9.out]at c9;clear hT1
   go_upto_if 62 with fail
   go_cut [] (fun wx=>Hid (TreeMem wx (un2 T T1 m pos h p))/\Hid (H.Frame (fun k=>k=T.g) w wx)/\Hid (Blk A #[.int .i64 2,.int .i64 (hd T pos p),.int .i64 (hd T pos h),.int .i64 (hdO T pos (prevSib m h)),.int .i64 (hdO T pos (nextSib m h)),.int .i64 (ix:Nat),.string ⟨#[]⟩,.string ⟨#[]⟩,.bool false,.int .i64 0,.int .i64 0] 73 wx)/\Hid (Blk w.heap.size #[.int .i64 0,.int .i64 0,.int .i64 0,.int .i64 0,.int .i64 0,.int .i64 0,.string ⟨#[]⟩,.string ⟨#[]⟩,.bool false,.int .i64 0,.int .i64 0] 73 wx))
   case first=>
    have HG1:=hi_ (fun e=>own_not HM1.out.row HRA1.out (by decide) (by rw[e,<-L1.out.g];rfl):A≠T.g);have HG2:=hi_ (fun e=>own_not HM1.out.row HR1.out (by decide) (by rw[e,<-L1.out.g];rfl):w.heap.size≠T.g)
    cases hns:nextSib m h with
    |none=>
     rw[hns]at c9;have k9:=c9;have k9':_=some (Value.int .i64 0):=c9;have k7:=(HM1.out.cell S11.out (k:=7) (by omega)).1;have f7:=HM1.out.free_ S11.out (k:=7) (by omega);rw[L1.out.g]at k7 f7;have HST:=hi_ (HM1.out.store S11.out (k:=7) (by omega) (.int .i64 (hdO T pos (prevSib m h))) (fun r=>{ r with last:=hdO T pos (prevSib m h) }) rfl (fun r=>⟨rfl,rfl⟩));rw[L1.out.g]at HST;have HUN:Hid (un2 T T1 m pos h p=T1.modS (pos p) fun r=>{ r with last:=hdO T pos (prevSib m h) }):=hi_ (by unfold un2;rw[hns]);have k7':_=some (Value.int .i64 (T1.sl (pos p)).last):=k7;have z1:(hdO T pos none != 0)=false:=rfl;have z2:(hdO T pos none==0)=true:=rfl;have z3:hdO T pos none=0:=rfl;clear c9 k7 hns;go_wp2_with fail
     go_meet
     refine⟨hi_ ?_,hi_ (frG HF1.out _ _),hi_ (HRA1.out.far HG1.out _ _),hi_ (HR1.out.far HG2.out _ _)⟩;rw[HUN.out];exact HST.out
    |some b=>
     obtain⟨hb1,hb2,hb3⟩:=HNs.out b hns;rw[hns]at c9;have hne1:¬hd T pos b=0:=by have:=hd_pos (T:=T) (pos:=pos) b;omega
     have hne0:(hd T pos b==0)=false:=beq_eq_false_iff_ne.2 hne1;have hne2:(hdO T pos (some b) != 0)=true:=bne_iff_ne.2 hne1;have hne3:¬hdO T pos (some b)=0:=hne1;have hne4:(hdO T pos (some b)==0)=false:=hne0;have S2:=hi_ (show pos b<T1.slots.length by rw[L1.out.len];exact hF.lt b hb1);have hlg1:=(ownsRow_open HM1.out.row).1;rw[L1.out.g]at hlg1;have D8:=lc_ c8 hlg1;have D9:=lc_ c9 hlg1;have QAb:=hi_ (fun(d:Later wc.heap.size wc)=>QA.out b hb1 T1 L1.out d.w (HM1.out.below d.h));have HUN:Hid (un2 T T1 m pos h p=T1.modS (pos b) fun r=>{ r with prev:=hdO T pos (prevSib m h) }):=hi_ (by unfold un2;rw[hns]);clear hb1 hb2 hb3 hns;go_wp2_with fail
     refine wp_region_later_tail 10 (by kernel_rfl) (by kernel_rfl) ?_;simp only[List.take_succ_cons,List.take_zero,List.drop_succ_cons,List.drop_zero];repeat (go_big_quiet_step ((go_at_call 83;exact Calls.later (QAb.out _))))
     refine wq_ (fun dq=>?_);have hT5:=HM1.out.below dq.h;have k8:=(hT5.cell S2.out (k:=8) (by omega)).1;have f8:=hT5.free_ S2.out (k:=8) (by omega);rw[L1.out.g]at k8 f8;have k8':_=some (Value.int .i64 (T1.sl (pos b)).prev):=k8;have HST:=hi_ (hT5.store S2.out (k:=8) (by omega) (.int .i64 (hdO T pos (prevSib m h))) (fun r=>{ r with prev:=hdO T pos (prevSib m h) }) rfl (fun r=>⟨rfl,rfl⟩));rw[L1.out.g]at HST;have HB5:=hi_ (HF1.out.below_ dq.h);have HRA5:=hi_ (HRA1.out.below dq.h);have HR5:=hi_ (HR1.out.below dq.h);clear D8 D9 c8 c9 hlg1 hT5 k8;go_wp2_with fail
     go_meet
     refine⟨hi_ ?_,hi_ (frG HB5.out _ _),hi_ (HRA5.out.far HG1.out _ _),hi_ (HR5.out.far HG2.out _ _)⟩;rw[HUN.out];exact HST.out
   case rest=>
    obtain⟨HM2,HF2,HRA2,HR2⟩:=hcut;clear HF1 HRA1 HR1 HM1 c8 c9;have L2:=hi_ (L1.out.trans (Like.un2 T T1 m pos h p));obtain⟨T2,hT2⟩:∃T2,T2=un2 T T1 m pos h p:=⟨_,rfl⟩;rw[<-hT2]at HM2 HC L2;have S02:=hi_ (show pos h<T2.slots.length by rw[L2.out.len];exact S0.out);have hl1:=modS_len T2 (pos h) (fun r=>{ r with parent:=0 });have hl2:=modS_len (T2.modS (pos h) (fun r=>{ r with parent:=0 })) (pos h) (fun r=>{ r with prev:=0 });have HST1:=hi_ (HM2.out.store S02.out (k:=5) (by omega) (.int .i64 0) (fun r=>{ r with parent:=0 }) rfl (fun r=>⟨rfl,rfl⟩));have HST2:=hi_ (HST1.out.store (s:=pos h) (by rw[hl1];exact S02.out) (k:=8) (by omega) (.int .i64 0) (fun r=>{ r with prev:=0 }) rfl (fun r=>⟨rfl,rfl⟩))
    have HST3:=hi_ (HST2.out.store (s:=pos h) (by rw[hl2,hl1];exact S02.out) (k:=9) (by omega) (.int .i64 0) (fun r=>{ r with next:=0 }) rfl (fun r=>⟨rfl,rfl⟩));have m5:=(HM2.out.cell S02.out (k:=5) (by omega)).1;have m8:=(HM2.out.cell S02.out (k:=8) (by omega)).1;have m9:=(HM2.out.cell S02.out (k:=9) (by omega)).1;have g5:=HM2.out.free_ S02.out (k:=5) (by omega);have g8:=HM2.out.free_ S02.out (k:=8) (by omega);have g9:=HM2.out.free_ S02.out (k:=9) (by omega);have m5':_=some (Value.int .i64 (T2.sl (pos h)).parent):=m5;have m8':_=some (Value.int .i64 (T2.sl (pos h)).prev):=m8;have m9':_=some (Value.int .i64 (T2.sl (pos h)).next):=m9;have hG1:A≠T.g:=fun e=>own_not HM2.out.row HRA2.out (by decide) (by rw[e,<-L2.out.g];rfl)
    have hG2:w.heap.size≠T.g:=fun e=>own_not HM2.out.row HR2.out (by decide) (by rw[e,<-L2.out.g];rfl);have eg:T2.g=T.g:=L2.out.g;have eg2:(T2.modS (pos h) (fun r=>{ r with parent:=0 })).g=T.g:=L2.out.g;have eg3:((T2.modS (pos h) (fun r=>{ r with parent:=0 })).modS (pos h) (fun r=>{ r with prev:=0 })).g=T.g:=L2.out.g;rw[eg3]at HST3;rw[eg2]at HST3;rw[eg]at m5' m8' m9' g5 g8 g9 HST3;clear m5 m8 m9 HST1 HST2 hl1 hl2 eg eg2 eg3 hT2;have HRA3:=hi_ (((HRA2.out.far hG1 (pos h*10+5) (.int .i64 0)).far hG1 (pos h*10+8) (.int .i64 0)).far hG1 (pos h*10+9) (.int .i64 0));have HR3:=hi_ (((HR2.out.far hG2 (pos h*10+5) (.int .i64 0)).far hG2 (pos h*10+8) (.int .i64 0)).far hG2 (pos h*10+9) (.int .i64 0))
    have HF3:=hi_ (frG (frG (frG HF2.out (pos h*10+5) (.int .i64 0)) (pos h*10+8) (.int .i64 0)) (pos h*10+9) (.int .i64 0));obtain⟨⟨r0,r1,r2,r3,r4,r5,r6,r7,r8,r9,r10⟩,_⟩:=cells11 HRA2.out;obtain⟨⟨k0,k1,k2,k3,k4,k5,k6,k7,k8,k9,k10⟩,⟨f0,f1,f2,f3,f4,f5,f6,f7,f8,f9,f10⟩⟩:=cells11 HR2.out;have nA1:¬T.g=A:=fun e=>hG1 e.symm;have nA2:¬T.g=w.heap.size:=fun e=>hG2 e.symm;go_wp2_with fail
    have h9:=Blk.set11 HR3.out (.int .i64 2) (.int .i64 (hd T pos p)) (.int .i64 (hd T pos h)) (.int .i64 (hdO T pos (prevSib m h))) (.int .i64 (hdO T pos (nextSib m h))) (.int .i64 (ix:Nat)) (.string ⟨#[]⟩) (.string ⟨#[]⟩) (.bool false) (.int .i64 0) (.int .i64 0);have hF9:=frame_set11 HF3.out (g:=w.heap.size) (Or.inr (Nat.le_refl _)) (.int .i64 2) (.int .i64 (hd T pos p)) (.int .i64 (hd T pos h)) (.int .i64 (hdO T pos (prevSib m h))) (.int .i64 (hdO T pos (nextSib m h))) (.int .i64 (ix:Nat)) (.string ⟨#[]⟩) (.string ⟨#[]⟩) (.bool false) (.int .i64 0) (.int .i64 0)
    have hM9:=HST3.out.beside HR3.out (frame_set11 (H.Frame.refl (fun k=>k=w.heap.size) _) (Or.inl rfl) (.int .i64 2) (.int .i64 (hd T pos p)) (.int .i64 (hd T pos h)) (.int .i64 (hdO T pos (prevSib m h))) (.int .i64 (hdO T pos (nextSib m h))) (.int .i64 (ix:Nat)) (.string ⟨#[]⟩) (.string ⟨#[]⟩) (.bool false) (.int .i64 0) (.int .i64 0)) (by decide) (by decide) (by decide) (by decide);obtain⟨⟨l0,l1,l2,l3,l4,l5,l6,l7,l8,l9,l10⟩,_⟩:=cells11 h9
    change bodyPost _ _ _ _ _ (set11 (((wc.setCell ⟨T.g,pos h*10+5,none⟩ (.int .i64 0)).setCell ⟨T.g,pos h*10+8,none⟩ (.int .i64 0)).setCell ⟨T.g,pos h*10+9,none⟩ (.int .i64 0)) w.heap.size (.int .i64 2) (.int .i64 (hd T pos p)) (.int .i64 (hd T pos h)) (.int .i64 (hdO T pos (prevSib m h))) (.int .i64 (hdO T pos (nextSib m h))) (.int .i64 (ix:Nat)) (.string ⟨#[]⟩) (.string ⟨#[]⟩) (.bool false) (.int .i64 0) (.int .i64 0));generalize set11 (((wc.setCell ⟨T.g,pos h*10+5,none⟩ (.int .i64 0)).setCell ⟨T.g,pos h*10+8,none⟩ (.int .i64 0)).setCell ⟨T.g,pos h*10+9,none⟩ (.int .i64 0)) w.heap.size (.int .i64 2) (.int .i64 (hd T pos p)) (.int .i64 (hd T pos h)) (.int .i64 (hdO T pos (prevSib m h))) (.int .i64 (hdO T pos (nextSib m h))) (.int .i64 (ix:Nat)) (.string ⟨#[]⟩) (.string ⟨#[]⟩) (.bool false) (.int .i64 0) (.int .i64 0)=W9 at *
    refine bodyPost_ret (v:=.agg #[.int .i64 2,.int .i64 (hd T pos p),.int .i64 (hd T pos h),.int .i64 (hdO T pos (prevSib m h)),.int .i64 (hdO T pos (nextSib m h)),.int .i64 (ix:Nat),.string ⟨#[]⟩,.string ⟨#[]⟩,.bool false,.int .i64 0,.int .i64 0]) (by simp[results,Tryz.results117,go_sem,l0,l1,l2,l3,l4,l5,l6,l7,l8,l9,l10]) rfl ⟨un3 T2 (pos h),?_,hF9,L2.out.trans (Like.un3 T2 (pos h)),⟨hM9,HFin.out _ HC.out⟩⟩;have q1:prevSib m h=prevAt (nd m p).kids ((nd m p).kids.idxOf h):=by unfold prevSib;rw[HPp.out];rfl
    have q2:nextSib m h=(nd m p).kids[(nd m p).kids.idxOf h+1]?:=by unfold nextSib;rw[HPp.out]
    rw[q1,q2,<-HIX.out];rfl
end A
end
end Go.Proofs.YtinphfpdfodkkaaGreatDoor
