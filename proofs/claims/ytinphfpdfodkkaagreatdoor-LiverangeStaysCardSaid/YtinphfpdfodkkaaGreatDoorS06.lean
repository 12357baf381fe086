/- Texts. -/
import Derived.Test.YtinphfpdfodkkaaGreatDoorS01
import Derived.Test.YtinphfpdfodkkaaGreatDoorS03
import Derived.Test.YtinphfpdfodkkaaGreatDoorS04
import Derived.Lib.ValidLaws
import Derived.Lib.OthersKept
import Derived.Lib.IndexAny
import Derived.Deep.DeepCutAuto
import Derived.WalkMore
set_option linter.unusedVariables false
set_option linter.unusedSimpArgs false
set_option maxHeartbeats 8000000
set_option maxRecDepth 100000
namespace Go.Proofs.YtinphfpdfodkkaaGreatDoor
section
namespace G
def spB(b:UInt8):Bool:=b==9 || b==10 || b==12 || b==13 || b==32
def lv_(c:UInt8):Bool:=spB c || c==47 || c==62 || (decide (65<=c.toNat) && decide (c.toNat<=90))
def cL_(s:Bytes):Bool:=!s.isEmpty && s.all (fun c=>!lv_ c) && decide (U.rep s=s)
def dc_(s:Bytes):Bool:=(match s with | []=>false|c :: _=>decide (97<=c.toNat) && decide (c.toNat<=122)) && cL_ s
def bE_(s:Bytes):Bool:=(s.drop 1).all (fun c=>!(c==61)) && cL_ s
def aW_:List (Bytes×Bytes)->List Bytes->Bool
 |[],_=>true
 |a :: l,seen=>bE_ a.1 && !seen.contains a.1 && aW_ l (seen++[a.1])
def make(m:aa_)(kind:Nat)(name data:Bytes)(l:List (Bytes×Bytes)):Option aa_:=
 if kind=2 then(if dc_ name && aW_ l []then some (m++[⟨2,name,l.map (fun a=>(a.1,U.rep a.2)),[],none,[],false⟩])else none)
 else some (m++[⟨kind,[],[],U.rep data,none,[],false⟩])
def bj_(m:aa_)(h:Nat)(name:Bytes):Option Nat:=(nd m h).attrs.findIdx? (fun a=>a.1==name)
def aM_(h:Nat)(name old:Bytes)(had:Bool):Rec:=⟨3,h,none,none,none,0,name,old,had,0,0⟩
def az_(lim:Option Nat)(m:aa_)(h:Nat)(name value:Bytes):List Rec×Nat×aa_:=
 if (nd m h).kind≠2 then([],10,m)
 else if bE_ name=false then([],1,m)
 else match bj_ m h name with
  |some i=>([aM_ h name (((nd m h).attrs[i]?.map (·.2)).getD []) true],0,upd m h fun x=>{ x with attrs:=x.attrs.set i (name,U.rep value) })
  |none=>if ∃k,lim=some k/\k<=(nd m h).attrs.length then([],5,m)
   else([aM_ h name [] false],0,upd m h fun x=>{ x with attrs:=x.attrs++[(name,U.rep value)] })
def ax_(m:aa_)(h:Nat)(name:Bytes):List Rec×Nat×aa_:=
 if (nd m h).kind≠2 then([],10,m)
 else match bj_ m h name with
  |none=>([],0,m)
  |some i=>([aM_ h name (((nd m h).attrs[i]?.map (·.2)).getD []) true],0,upd m h fun x=>{ x with attrs:=x.attrs.eraseIdx i })
def replace(m:aa_)(h:Nat)(i c:Int)(s:Bytes):List Rec×Nat×aa_:=
 if (nd m h).kind<3 then([],10,m)
 else if i<0\/((U.pts (nd m h).data).length:Int)<i\/c<0 then([],2,m)
 else
  let z:=min c.toNat ((U.pts (nd m h).data).length-i.toNat)
  ([⟨4,h,none,none,none,i.toNat,[],(nd m h).data,false,z,(U.pts s).length⟩],0,bQ_ m h (U.splice (nd m h).data s i.toNat z))
def bd_(m:aa_)(h:Nat):List Rec×Nat×aa_:=
 if (nd m h).kind=1 then([],10,m)
 else match (nd m h).parent with|none=>([],0,m)|some q=>([bm_ m h q],0,cut m h q)
def cA_(m:aa_)(h:Nat):Nat×aa_:=if (nd m h).parent≠none\/(nd m h).kind=1 then(7,m) else(0,drop m h)
def aU_(m:aa_)(h:Nat)(deep:Bool):Nat×aa_:=if (nd m h).kind=1 then(10,m) else(0,copyT 128 m h deep)
end G
end
section
open Go.RowKit
namespace G
theorem WF.copy_step(n:Nat){m m':aa_}(W:WF m){h c:Nat}(C:dW_ m m' h)(hck:c∈(nd m h).kids)(hl:G.low m n c) :
  dW_ m' (G.copyT n m' c true) c/\WF (G.put (G.copyT n m' c true) m.length m'.length (nd (G.copyT n m' c true) m.length).kids.length)/\dW_ m (G.put (G.copyT n m' c true) m.length m'.length (nd (G.copyT n m' c true) m.length).kids.length) h:=by
 obtain⟨hcm,hcp⟩:=W.kid h c hck;have hc0:0<c:=by
  rcases Nat.eq_zero_or_pos c with e|e
  ·subst e;rw[W.doc.2.2.1]at hcp;cases hcp
  exact e
 have hmore:=C.more;have hcl:G.low m' n c:=dG_ W.low_all C.old hcm hl;have C2:=WF.copyT n C.wf true (by omega:c<m'.length) hc0 hcl;generalize hm2:G.copyT n m' c true=m2 at C2 ⊢;have hmore2:=C2.more;have hkk:nd m2 m.length=nd m' m.length:=C2.old _ hmore;have hkp:(nd m2 m.length).parent=none:=by rw[hkk];exact C.root.1
 have hcon:contains m2 m'.length m.length=false:=by
  rw[C2.wf.contains_root hkp,beq_eq_false_iff_ne];omega
 have hch:ay_ m' c=ay_ m c:=d3_ W C.wf W.low_all C.old c hcm;have hhk:=W.height_kid hck;have hhd:=W.height_depth h;have hdp:=W.depth_pos h;have hrh:=C2.high;have hkind:(nd m h).kind<=2:=by
  rcases Nat.lt_or_ge 2 (nd m h).kind with e|e
  ·rw[W.leaf h (by omega)]at hck;cases hck
  exact e
 have W3:WF (G.put m2 m.length m'.length (nd m2 m.length).kids.length):=by
  refine C2.wf.put C2.root.1 (by omega) hmore2 (by omega) hcon ?_ (by rw[hkk,C.root.2.2];exact hkind) (by rw[hkk,C2.root.2.1,C.root.2.1]);rw[C2.wf.depth_root hkp];omega
 have hnd:∀i,nd (G.put m2 m.length m'.length (nd m2 m.length).kids.length) i={ nd m2 i with kids:=if i=m.length then(nd m2 i).kids.take (nd m2 m.length).kids.length++m'.length :: (nd m2 i).kids.drop (nd m2 m.length).kids.length else(nd m2 i).kids,parent:=if i=m'.length then some m.length else(nd m2 i).parent }:=fun i=>bC_ hmore2 (by omega) i;have hkids:(nd (G.put m2 m.length m'.length (nd m2 m.length).kids.length) m.length).kids=(nd m' m.length).kids++[m'.length]:=by
  rw[hnd];dsimp only;rw[if_pos rfl,List.take_length,List.drop_length,hkk]
 have hnok:∀j,j≠m.length->contains m2 j m.length=false:=fun j hj=>by rw[C2.wf.contains_root hkp,beq_eq_false_iff_ne];exact hj
 have hkne:∀j∈(nd m' m.length).kids,j≠m.length/\j<m'.length:=fun j hj=>by
  obtain⟨a,b⟩:=C.wf.kid _ j hj;exact⟨fun e=>(by subst e;rw[C.root.1]at b;cases b),a⟩
 refine⟨C2,W3,W3,by rw[bw_];omega,fun i hi=>?_,?_,?_,?_⟩
 ·rw[hnd,if_neg (by omega),if_neg (by omega)]
  exact(C2.old i (by omega)).trans (C.old i hi)
 ·rw[hnd]
  dsimp only;rw[if_neg (by omega),hkk];exact C.root
 ·rw[W3.height_eq,hkids]
  have:eC_ (((nd m' m.length).kids++[m'.length]).map (ay_ (G.put m2 m.length m'.length (nd m2 m.length).kids.length)))<=ay_ m h-1:=by
   refine f1_ fun x hx=>?_;obtain⟨j,hj,rfl⟩:=List.mem_map.1 hx
   rcases List.mem_append.1 hj with hj|hj
   ·obtain⟨e1,e2⟩:=hkne j hj
    rw[d7_ C2.wf W3 (by omega) hmore2 j (hnok j e1),d3_ C.wf C2.wf C.wf.low_all C2.old j e2];have:=C.wf.height_kid hj;have:=C.high;omega
   have e:=List.mem_singleton.1 hj;subst e;rw[d7_ C2.wf W3 (by omega) hmore2 _ hcon];omega
  omega
 rw[W3.walk_eq,hkids,List.flatMap_append,bw_];have e1:(nd m' m.length).kids.flatMap (G.walk (G.put m2 m.length m'.length (nd m2 m.length).kids.length))=(nd m' m.length).kids.flatMap (G.walk m'):=cT_ fun j hj=>by
  obtain⟨a,b⟩:=hkne j hj;rw[fB_ C2.wf W3 (by omega) hmore2 j (hnok j a),jT_ C.wf C2.wf C.wf.low_all C2.old j b]
 have e2:[m'.length].flatMap (G.walk (G.put m2 m.length m'.length (nd m2 m.length).kids.length))=List.range' m'.length (m2.length-m'.length):=by
  rw[List.flatMap_cons,List.flatMap_nil,List.append_nil,fB_ C2.wf W3 (by omega) hmore2 _ hcon];exact C2.walk
 rw[e1,e2,<-List.cons_append,<-C.wf.walk_eq,C.walk];exact gX_ (by omega) (by omega)
end G
end
section
namespace G
structure Op where
 kind:Nat
 a:Nat
 b:Nat
 c:Nat
 s:Bytes
 t:Bytes
 n:Int
 k:Int
def Op.at_(o:Op)(m:aa_):Nat:=o.a % m.length
def Op.bt(o:Op)(m:aa_):Nat:=o.b % m.length
def Op.ct(o:Op)(m:aa_):Option Nat:=if o.c % (m.length+1)=0 then none else some (o.c % (m.length+1)-1)
def hM_(m:aa_):Option Nat->Bool
 |none=>true
 |some x=>has m x
def Op.al(o:Op):List (Bytes×Bytes):=if 0<o.n then[(o.t,o.s),([107],o.t)] else[]
def step(lim:Option Nat)(m:aa_)(o:Op):List Rec×Nat×aa_:=
 if o.kind % 10<3 then(match make m (2+o.kind % 10) o.s o.t o.al with|none=>([],1,m)|some m'=>([],0,m'))
 else if o.kind % 10=3 then(if has m (o.at_ m) && (has m (o.bt m) && hM_ m (o.ct m))then insert m (o.bt m) (o.at_ m) (o.ct m) else([],6,m))
 else if has m (o.at_ m)=false then([],6,m)
 else if o.kind % 10=4 then bd_ m (o.at_ m)
 else if o.kind % 10=5 then az_ lim m (o.at_ m) o.s o.t
 else if o.kind % 10=6 then ax_ m (o.at_ m) o.s
 else if o.kind % 10=7 then replace m (o.at_ m) o.n o.k o.t
 else if o.kind % 10=8 then([],aU_ m (o.at_ m) (decide (0<o.n)))
 else([],cA_ m (o.at_ m))
def bod(x:Node):List (Bytes×Bytes)×Bytes:=(x.attrs,x.data)
theorem em_{m:aa_}{i:Nat}{f:Node->Node}(h:m.length<=i):upd m i f=m:=by
 unfold upd;refine List.ext_getElem? fun j=>?_;rw[List.getElem?_modify]
 by_cases e:i=j
 ·subst e;rw[List.getElem?_eq_none h];simp
 simp[e]
theorem nC_{m:aa_}{i:Nat}{f:Node->Node}{P:Node->Prop}(hP:∀j,P (nd m j))(hf:P (f (nd m i)))(j:Nat):P (nd (upd m i f) j):=by
 rcases Nat.lt_or_ge i m.length with h|h
 ·rw[cn_ h]
  by_cases e:j=i
  ·rw[if_pos e,e];exact hf
  rw[if_neg e];exact hP j
 rw[em_ h];exact hP j
def dk_(P:List (Bytes×Bytes)×Bytes->Prop)(m:aa_):Prop:=∀j,P (bod (nd m j))
section
variable {P:List (Bytes×Bytes)×Bytes->Prop}
theorem dk_.updN{m:aa_}(h:dk_ P m)(i:Nat){f:Node->Node}(hf:P (bod (f (nd m i)))):dk_ P (upd m i f):=fun j=>nC_ (P:=fun x=>P (bod x)) h hf j
theorem dk_.app{m:aa_}(h:dk_ P m){x:Node}(hx:P (bod x)):dk_ P (m++[x]):=fun j=>by
 rw[aK_]
 split
 ·exact hx
 exact h j
theorem dk_.cut{m:aa_}(h:dk_ P m)(a p:Nat):dk_ P (cut m a p):=by
 unfold G.cut;have h1:dk_ P (upd m p fun x=>{ x with kids:=x.kids.erase a }):=h.updN p (h p);exact h1.updN a (h1 a)
theorem dk_.put{m:aa_}(h:dk_ P m)(p a i:Nat):dk_ P (put m p a i):=by
 unfold G.put;have h1:dk_ P (upd m p fun x=>{ x with kids:=x.kids.take i++a :: x.kids.drop i }):=h.updN p (h p);exact h1.updN a (h1 a)
theorem dk_.copyT:∀(n:Nat) {m:aa_} (h:dk_ P m) (a:Nat) (deep:Bool),dk_ P (copyT n m a deep)
 |0,m,h,a,deep=>h
 |n+1,m,h,a,deep=>by
  have h1:dk_ P (m++[bare (nd m a)]):=h.app (h a);rw[G.copyT]
  cases deep with
  |false=>exact h1
  |true=>
   simp only[if_true];have hf:∀(l:List Nat) (m':aa_),dk_ P m'->dk_ P (l.foldl (fun m' c=>G.put (G.copyT n m' c true) m.length m'.length (nd (G.copyT n m' c true) m.length).kids.length) m'):=by
    intro l
    induction l with
    |nil=>exact fun m' h=>h
    |cons c t ih=>exact fun m' h'=>ih _ ((dk_.copyT n h' c true).put _ _ _)
   exact hf _ _ h1
theorem dk_.drop{m:aa_}(h:dk_ P m)(a:Nat):dk_ P (drop m a):=fun j=>by
 rcases Nat.lt_or_ge j m.length with hj|hj
 ·rw[fY_ j hj];exact h j
 rw[c1_ (by unfold G.drop;simpa using hj)];have:=h j
 rwa [c1_ hj]at this
theorem dk_.out{m:aa_}(h:dk_ P m)(a:Nat):dk_ P (out m a):=by
 unfold G.out
 split
 ·exact h
 exact h.cut _ _
end
def cR_(k:Nat)(x:List (Bytes×Bytes)×Bytes):Prop:=x.1.length<=2+k/\U.rep x.2=x.2/\x.2.length<=120*(k+1)
theorem cR_.more{k:Nat}{x:List (Bytes×Bytes)×Bytes}(h:cR_ k x):cR_ (k+1) x:=⟨by have:=h.1;omega,h.2.1,by have:=h.2.2;omega⟩
theorem k6_(L:List Bytes)(i c:Nat):(L.take i).flatten.length+(L.drop (i+c)).flatten.length<=L.flatten.length:=by
 have h1:L=L.take i++L.drop i:=(List.take_append_drop i L).symm;have h2:L.drop (i+c)=(L.drop i).drop c:=by rw[List.drop_drop]
 have h3:(L.drop i).flatten=((L.drop i).take c).flatten++((L.drop i).drop c).flatten:=by rw[<-List.flatten_append,List.take_append_drop]
 have h4:L.flatten=(L.take i).flatten++(L.drop i).flatten:=by rw[<-List.flatten_append,List.take_append_drop]
 rw[h4,h3,h2];simp only[List.length_append];omega
theorem hS_{d s:Bytes}{i c n:Nat}(hd:U.rep d=d)(hs:(U.rep s).length<=n):(U.splice d s i c).length<=d.length+n:=by
 have h1:=k6_ (U.pts d) i c;have h2:(U.pts d).flatten=d:=hd;rw[h2]at h1;unfold U.splice;simp only[List.length_append];omega
theorem jb_{k:Nat}{m:aa_}{o:Op}{lim:Option Nat}(h:dk_ (cR_ k) m)(ht:(U.rep o.t).length<=120):dk_ (cR_ (k+1)) (step lim m o).2.2:=by
 have h':dk_ (cR_ (k+1)) m:=fun j=>(h j).more;unfold step
 split
 ·cases hmk:make m (2+o.kind % 10) o.s o.t o.al with
  |none=>exact h'
  |some m'=>
   dsimp only;unfold make at hmk
   split at hmk
   ·split at hmk
    ·injection hmk with hmk
     subst hmk;refine h'.app ⟨?_,rfl,Nat.zero_le _⟩;show(o.al.map _).length<=_;rw[List.length_map];unfold Op.al
     split<;>simp<;>omega
    cases hmk
   injection hmk with hmk
   subst hmk;exact h'.app ⟨Nat.zero_le _,U.lW_ _,by show(U.rep o.t).length<=_;omega⟩
 split
 ·split
  ·unfold insert
   split
   ·exact h'
   split
   ·exact h'
   exact(h'.out _).put _ _ _
  exact h'
 split
 ·exact h'
 split
 ·unfold bd_
  split
  ·exact h'
  split
  ·exact h'
  exact h'.cut _ _
 split
 ·unfold az_
  split
  ·exact h'
  split
  ·exact h'
  split
  ·rename_i i hi
   refine h'.updN _ ⟨?_,(h _).2.1,(h' _).2.2⟩;show(List.set _ _ _).length<=_;rw[List.length_set];exact(h' _).1
  split
  ·exact h'
  refine h'.updN _ ⟨?_,(h _).2.1,(h' _).2.2⟩;show(_++[_]).length<=_;rw[List.length_append];have:=(h (o.at_ m)).1;show(nd m (o.at_ m)).attrs.length+1<=_;have h9:(nd m (o.at_ m)).attrs.length<=2+k:=this;omega
 split
 ·unfold ax_
  split
  ·exact h'
  split
  ·exact h'
  refine h'.updN _ ⟨?_,(h _).2.1,(h' _).2.2⟩;show(List.eraseIdx _ _).length<=_;have h8:=List.length_eraseIdx_le (nd m (o.at_ m)).attrs ‹Nat›;have h9:(nd m (o.at_ m)).attrs.length<=2+(k+1):=(h' (o.at_ m)).1;omega
 split
 ·unfold replace
  split
  ·exact h'
  split
  ·exact h'
  dsimp only;unfold bQ_;refine h'.updN _ ⟨(h' _).1,U.kx_ _ _ _ _,?_⟩;have h8:=hS_ (s:=o.t) (i:=o.n.toNat) (c:=min o.k.toNat ((U.pts (nd m (o.at_ m)).data).length-o.n.toNat)) (h (o.at_ m)).2.1 ht;have h9:(nd m (o.at_ m)).data.length<=120*(k+1):=(h (o.at_ m)).2.2;show(U.splice _ _ _ _).length<=_;have h10:(bod (nd m (o.at_ m))).2=(nd m (o.at_ m)).data:=rfl;rw[h10]at h8;omega
 split
 ·unfold aU_
  split
  ·exact h'
  exact h'.copyT _ _ _
 unfold cA_
 split
 ·exact h'
 exact h'.drop _
theorem iW_{m:aa_}{h:Nat}{nm vl:Bytes}{k:Nat}(hl:(nd m h).attrs.length<k):az_ (some k) m h nm vl=az_ none m h nm vl:=by
 unfold az_
 split
 ·rfl
 split
 ·rfl
 split
 ·rfl
 rw[if_neg,if_neg]
 ·rintro⟨k,hk,_⟩;cases hk
 rintro⟨j,hj,h2⟩;injection hj with hj
 omega
theorem nH_{m:aa_}{o:Op}{k:Nat}(hl:∀i,(nd m i).attrs.length<k):step (some k) m o=step none m o:=by
 unfold step;rw[iW_ (hl _)]
end G
end
section
namespace U
theorem lf_(l:List UInt8)(h:l≠[]):Lib.decodeL l=(code (a7_ l),adv l):=by
 have hl:0<l.length:=List.length_pos_iff.2 h;have:=dT_ ⟨l.toArray⟩ 0 (by show 0<l.toArray.size;simpa using hl);simpa[Lib.decodeL]using this
theorem oY_:∀(n:Nat) (l:List UInt8),l.length<=n->l.length<=(rep l).length
 |0,l,h=>by omega
 |n+1,l,h=>by
  by_cases hl:l=[]
  ·subst hl;simp
  have ha:=cs_ l;have hle:=hf_ l hl;have ih:=oY_ n (l.drop (adv l)) (by simp;omega);rw[c7_ l hl,List.length_append];rw[List.length_drop]at ih;have hc:adv l<=(a7_ l).length:=by
   have:=fv_ l;unfold a7_ adv
   split
   ·simp
   simp;omega
  omega
theorem kk_(l:List UInt8)(h:l≠[]):(code (a7_ l)=65533/\adv l=1)↔sz l=0:=by
 constructor
 ·rintro⟨h1,h2⟩
  by_cases h0:sz l=0
  ·exact h0
  exfalso;unfold adv at h2
  rw[if_neg h0]at h2;rw[dA_,if_neg h0,cq_ l h0,h2]at h1;simp only[if_true]at h1;have hb:=(l.getD 0 0).toNat_lt;omega
 intro h0;refine⟨?_,?_⟩
 ·rw[dA_,if_pos h0]
 unfold adv;rw[if_pos h0]
theorem hP_:∀(n:Nat) (l:List UInt8),l.length<=n->(Lib.validD l=true↔rep l=l)
 |0,l,h=>by
  have:l=[]:=List.eq_nil_of_length_eq_zero (by omega);subst this;simp[Lib.validD_nil,dM_]
 |n+1,l,h=>by
  by_cases hl:l=[]
  ·subst hl;simp[Lib.validD_nil,dM_]
  have ha:=cs_ l;have hle:=hf_ l hl;rw[Lib.validD_step l hl,lf_ l hl]
  by_cases h0:sz l=0
  ·rw[if_pos ((kk_ l hl).2 h0)]
   constructor
   ·intro e;simp at e
   intro e;exfalso;have hg:=oY_ l.length (l.drop 1) (by simp);rw[c7_ l hl]at e;unfold a7_ adv at e;rw[if_pos h0,if_pos h0]at e;have e':=congrArg List.length e;rw[List.length_append]at e';rw[List.length_drop]at hg;simp at e';simp at hg;omega
  rw[if_neg (fun h=>h0 ((kk_ l hl).1 h))];have ih:=hP_ n (l.drop (adv l)) (by simp;omega);rw[ih,c7_ l hl];have hch:a7_ l=l.take (adv l):=by unfold a7_ adv;rw[if_neg h0,if_neg h0]
  rw[hch];constructor
  ·intro e;rw[e,List.take_append_drop]
  intro e;have e2:l.take (adv l)++rep (l.drop (adv l))=l.take (adv l)++l.drop (adv l):=by rw[List.take_append_drop];exact e
  exact List.append_cancel_left e2
theorem valid_eq(l:List UInt8):Lib.validD l=decide (rep l=l):=by
 rw[Bool.eq_iff_iff,hP_ l.length l (nl_)];simp
theorem bW_(a:UInt8)(n:Int)(h:n=a.toNat):n.toNat.toUInt8=a:=by
 subst h;simp
theorem ir_(l:List UInt8):Lib.encodeRune (code (a7_ l):Nat)=a7_ l:=by
 rw[dA_];have hc:=hk_ l
 rcases hc with⟨e,hc⟩|⟨e,hc⟩|⟨e,hc⟩|⟨e,hc⟩|⟨e,_⟩
 ·have ht:a7_ l=[l.getD 0 0]:=by
   unfold a7_;rw[e,if_neg (by omega),c3_ l 1 (by have:=fv_ l;omega)];simp[List.range,List.range.loop]
  unfold one at hc;rw[if_neg (by omega),cq_ l (by omega),e,ht];simp only[if_true];unfold Lib.encodeRune;rw[Lib.encodeRuneZ_one (by omega) (by omega)];simp
 ·have ht:a7_ l=[l.getD 0 0,l.getD 1 0]:=by
   unfold a7_;rw[e,if_neg (by omega),c3_ l 2 (by have:=fv_ l;omega)];simp[List.range,List.range.loop]
  unfold two at hc;rw[if_neg (by omega),cq_ l (by omega),e,ht];simp only[if_true,if_neg (by omega:¬(2:Nat)=1)];unfold Lib.encodeRune;rw[Lib.encodeRuneZ_two (by omega) (by omega)];simp only[List.map_cons,List.map_nil];rw[bW_ (l.getD 0 0) _ (by omega),bW_ (l.getD 1 0) _ (by omega)]
 ·have ht:a7_ l=[l.getD 0 0,l.getD 1 0,l.getD 2 0]:=by
   unfold a7_;rw[e,if_neg (by omega),c3_ l 3 (by have:=fv_ l;omega)];simp[List.range,List.range.loop]
  unfold three sec at hc;rw[if_neg (by omega),cq_ l (by omega),e,ht];simp only[if_true,if_neg (by omega:¬(3:Nat)=1),if_neg (by omega:¬(3:Nat)=2)];unfold Lib.encodeRune;rw[Lib.encodeRuneZ_three (by omega)];simp only[List.map_cons,List.map_nil];rw[bW_ (l.getD 0 0) _ (by omega),bW_ (l.getD 1 0) _ (by omega),bW_ (l.getD 2 0) _ (by omega)]
 ·have ht:a7_ l=[l.getD 0 0,l.getD 1 0,l.getD 2 0,l.getD 3 0]:=by
   unfold a7_;rw[e,if_neg (by omega),c3_ l 4 (by have:=fv_ l;omega)];simp[List.range,List.range.loop]
  unfold four sec at hc;rw[if_neg (by omega),cq_ l (by omega),e,ht];simp only[if_neg (by omega:¬(4:Nat)=1),if_neg (by omega:¬(4:Nat)=2),if_neg (by omega:¬(4:Nat)=3)];unfold Lib.encodeRune;rw[Lib.encodeRuneZ_four (by omega) (by omega)];simp only[List.map_cons,List.map_nil];rw[bW_ (l.getD 0 0) _ (by omega),bW_ (l.getD 1 0) _ (by omega),bW_ (l.getD 2 0) _ (by omega),bW_ (l.getD 3 0) _ (by omega)]
 rw[if_pos e];unfold a7_;rw[if_pos e]
 decide
end U
namespace T
theorem code_lt(c:List UInt8):U.code c<2097152:=by
 unfold U.code
 split
 ·rename_i a;have:=a.toNat_lt;omega
 ·omega
 ·omega
 ·omega
 omega
end T
end
section
open Go.RowKit
namespace T
def Tabs(w:World):Prop:=Lib.Utf8Tabs 0 1 w/\0 + 1 + 1<=w.heap.size
theorem Tabs.below{w w':World}(h:Tabs w)(b:Below w.heap.size w w'):Tabs w':=by
 have hz:=h.2;refine⟨⟨fun c hc=>?_,fun i hi=>⟨?_,?_⟩⟩,Nat.le_trans hz b.size⟩
 ·rw[b.cell (p:=⟨0,c,none⟩) (by show(0:Nat)<_;omega)];exact h.1.1 c hc
 ·rw[b.cell (p:=⟨1,2*i,none⟩) (by show(1:Nat)<_;omega)];exact(h.1.2 i hi).1
 rw[b.cell (p:=⟨1,2*i+1,none⟩) (by show(1:Nat)<_;omega)];exact(h.1.2 i hi).2
theorem ex_(s:ByteArray)(w:World)(hs:s.size<=140737488351232)(hT:Tabs w) :
  Calls Tryz.prog 144 #[.string s] w fun e w'=>e=.returned (.bool (decide (U.rep s.data.toList=s.data.toList)))/\Below w.heap.size w w':=by
 rw[<-U.valid_eq];exact Any.utf8_ValidString Tryz.lays196 s w (by omega) hT.1
theorem Valid(s:ByteArray)(w:World)(hs:s.size<=140737488351232)(hT:Tabs w) :
  Calls Tryz.prog 161 #[.string s] w fun e w'=>e=.returned (.bool (decide (U.rep s.data.toList=s.data.toList)))/\Below w.heap.size w w':=by
 have hv:=hi_ (ex_ s w hs hT);generalize decide (U.rep s.data.toList=s.data.toList)=V at *
 go_enter Tryz.func161,Tryz.ntmps161
 go_wp2_with (go_at_call 144;refine hv.out.mono ?_)
 rintro e w1 ⟨rfl,b1⟩;go_wp2_with fail
 go_ret
 exact⟨rfl,b1⟩
def TRRel(s:ByteArray)(w1:World)(wr:World):Prop:=
 ∃(pos:Nat) (acc:List UInt8),pos<=s.size/\Lib.IsBuilderF 120 5 w1.heap.size w1.heap.size (Lib.byteCells acc) wr/\wr.heap[w1.heap.size+1]?=some (.stringIter s pos)/\Below w1.heap.size w1 wr/\Hd (acc++U.rep (s.data.toList.drop pos)=U.rep s.data.toList)/\acc.length<=4*pos
theorem lu_(s:ByteArray)(w:World)(hs:s.size<=1000000)(hT:Tabs w)(hv:U.rep s.data.toList≠s.data.toList) :
  Calls Tryz.prog 104 #[.string s] w fun e w'=>e=.returned (.string ⟨(U.rep s.data.toList).toArray⟩)/\Below w.heap.size w w':=by
 have hc:=ex_ s w (by omega) hT;rw[decide_eq_false hv]at hc;have HC:=hi_ hc;clear hc hv
 go_enter Tryz.func104,Tryz.ntmps104
 go_wp2_with (go_at_call 144;refine HC.o.mono ?_)
 rintro e w1 ⟨rfl,b1⟩;have zw:=b1.size;go_wp2_with fail
 go_loopw [] (fun wr=>TRRel s w1 wr) (fun wr=>s.size-wr.iterPos (w1.heap.size+1))
 case atStart=>
  refine⟨0,[],Nat.zero_le _,(Lib.IsBuilderF.of (Lib.fresh_isBuilder 120 5 w1)).alloc _,?_,((Below.refl _ w1).alloc (nl_) _).alloc (by simp) _,hi_ rfl,by simp⟩;have:=World.iter_heap (w1.alloc (.cells #[.pointer none,.slice none 0 0] 120)) s 0;simpa using this
 obtain⟨pos,acc,hps,hI,hit,hbw,HA,hal⟩:=hrel;have hsz:w1.heap.size+1<wr.heap.size:=(Array.getElem?_eq_some_iff.1 hit).1
 by_cases hp:pos<s.size
 ·have hne:s.data.toList.drop pos≠[]:=by rw[eX_ s pos hp];exact List.cons_ne_nil _ _
  have HN:=hi_ (U.c7_ _ hne);have HE:=hi_ (U.ir_ (s.data.toList.drop pos));have hal2:=U.hf_ _ hne;rw[List.length_drop,U.dw_]at hal2;have hpos:=U.cs_ (s.data.toList.drop pos);have hcl:=code_lt (U.a7_ (s.data.toList.drop pos));have hnx:∀ty,(Instr.next (.pointer (some ⟨w1.heap.size+1,0,none⟩)) true ty).run Tryz.prog wr=.ok (.tuple #[.bool true,.int .i64 pos,.int .i32 (U.code (U.a7_ (s.data.toList.drop pos)):Nat)]) (wr.iterAt (w1.heap.size+1) s (pos+U.adv (s.data.toList.drop pos))):=fun ty=>by
   rw[Lib.run_next_any_at wr (w1.heap.size+1) s pos ty hit hp,U.dT_ s pos hp]
  clear hne;have hch4:(U.a7_ (s.data.toList.drop pos)).length<=4:=by rw[<-HE.o,<-Lib.runeCells_length];exact(Lib.runeCells_le _).2
  generalize hcd:U.code (U.a7_ (s.data.toList.drop pos))=C at *;have HCD:=hi_ hcd;clear hcd;generalize hpp:pos+U.adv (s.data.toList.drop pos)=pos' at *;have HPP:=hi_ hpp;have hpos':pos'<=s.size:=by omega
  have hpos2:pos<pos':=by omega
  clear hpp;have hI2:=hI.iterAt hit pos';have hit2:=Lib.iterAt_heap wr (w1.heap.size+1) s pos pos' hit;have hbw2:=Lib.below_iterAt hbw (k:=w1.heap.size+1) (by omega) s pos';have hsz2:w1.heap.size<=(wr.iterAt (w1.heap.size+1) s pos').heap.size:=by rw[Lib.iterAt_size];omega
  go_wp2_with (go_at_call 145;refine(Any.Builder_WriteRune_k Tryz.lays168 Tryz.Builder_Extra_168 w1.heap.size w1.heap.size _ (C:Int) (by omega) (by omega) _ hI2 (by rw[Lib.byteCells_length];omega) hsz2).mono ?_)
  rintro e W1 ⟨rfl,h1,bb1,k1⟩;go_wp2_with fail
  go_roundw
  case rel=>
   refine⟨pos',acc++U.a7_ (s.data.toList.drop pos),hpos',?_,k1.iter hit2 (by omega),hbw2.trans bb1,hi_ ?_,by simp;omega⟩
   ·rw[Lib.byteCells_append,<-HE.o,Lib.byteCells_encodeRune];exact Or.inr h1
   have h3:=HA.o;rw[HN.o,List.drop_drop,HPP.o,<-List.append_assoc]at h3;exact h3
  simp only[World.iterPos,k1.iter hit2 (by omega),hit];omega
 have hnx:∀ty,(Instr.next (.pointer (some ⟨w1.heap.size+1,0,none⟩)) true ty).run Tryz.prog wr=.ok (.tuple #[.bool false]) wr:=fun ty=>Lib.run_next_end_at wr (w1.heap.size+1) s pos ty hit hp;have h3:=HA.o;rw[eW_ s pos hp,U.dM_,List.append_nil]at h3;have H3:=hi_ h3;clear h3;go_wp2_with (go_at_call 55;refine(Tryz.Builder_String_any_k w1.heap.size w1.heap.size acc _ hI (by omega)).mono ?_)
 rintro e W1 ⟨rfl,_,bb1,_⟩;go_wp2_with fail
 go_ret
 rw[H3.o];exact⟨rfl,b1.trans ((hbw.trans bb1).mono (by omega))⟩
theorem Repair(s:ByteArray)(w:World)(hs:s.size<=1000000)(hT:Tabs w) :
  Calls Tryz.prog 104 #[.string s] w fun e w'=>e=.returned (.string ⟨(U.rep s.data.toList).toArray⟩)/\Below w.heap.size w w':=by
 by_cases hv:U.rep s.data.toList=s.data.toList
 ·have hc:=ex_ s w (by omega) hT
  rw[decide_eq_true hv]at hc;have HC:=hi_ hc;clear hc;rw[hv];clear hv
  go_enter Tryz.func104,Tryz.ntmps104
  go_wp2_with (go_at_call 144;refine HC.o.mono ?_)
  rintro e w1 ⟨rfl,b1⟩;go_wp2_with fail
  go_ret
  exact⟨rfl,b1⟩
 exact lu_ s w hs hT hv
end T
end
section
open Go.RowKit
namespace U
def off(L:List (List UInt8))(k:Nat):Nat:=(L.take k).flatten.length
theorem jG_(L:List (List UInt8))(k:Nat):L.flatten.take (off L k)=(L.take k).flatten:=by
 have e:L.flatten=(L.take k).flatten++(L.drop k).flatten:=by rw[<-List.flatten_append,List.take_append_drop]
 rw[e];unfold off;rw[List.take_left]
theorem ke_(L:List (List UInt8))(k:Nat):L.flatten.drop (off L k)=(L.drop k).flatten:=by
 have e:L.flatten=(L.take k).flatten++(L.drop k).flatten:=by rw[<-List.flatten_append,List.take_append_drop]
 rw[e];unfold off;rw[List.drop_left]
theorem jW_(L:List (List UInt8))(k:Nat):off L k<=L.flatten.length:=by
 have:=congrArg List.length (jG_ L k);rw[List.length_take]at this;unfold off at *;omega
theorem jc_(L:List (List UInt8))(k:Nat)(h:L.length<=k):off L k=L.flatten.length:=by
 unfold off;rw[List.take_of_length_le h]
theorem jV_(L:List (List UInt8)){j k:Nat}(h:j<=k):off L j<=off L k:=by
 unfold off;have e:L.take k=L.take j++(L.take k).drop j:=by
  have:=(List.take_append_drop j (L.take k)).symm;rw[List.take_take,Nat.min_eq_left h]at this;exact this
 rw[e,List.flatten_append,List.length_append];omega
theorem jU_(L:List (List UInt8))(k:Nat)(h:k<L.length):off L (k+1)=off L k+L[k].length:=by
 unfold off;rw[List.take_succ_eq_append_getElem h,List.flatten_append];simp
def sl(L:List (List UInt8))(f t:Nat):List UInt8:=((L.take t).drop f).flatten
theorem oW_(L:List (List UInt8))(f t:Nat)(h:f<=t):(L.flatten.drop (off L f)).take (off L t-off L f)=sl L f t:=by
 have h1:=jV_ L h;rw[<-List.drop_take,jG_];unfold sl;have e:off L f=off (L.take t) f:=by unfold off;rw[List.take_take,Nat.min_eq_left h]
 rw[e,ke_]
theorem fC_(L:List (List UInt8))(f t:Nat)(h:t<=f):sl L f t=[]:=by
 unfold sl;rw[List.drop_of_length_le (by rw[List.length_take];omega)];rfl
theorem pc_(l:List UInt8)(k:Nat)(h:k<(pts l).length):(rep l).drop (off (pts l) k)=((pts l).drop k).flatten/\adv ((rep l).drop (off (pts l) k))=(pts l)[k].length:=by
 have h1:=ke_ (pts l) k;refine⟨h1,?_⟩;have h2:(rep l).drop (off (pts l) k)=((pts l).drop k).flatten:=h1;rw[h2,List.drop_eq_getElem_cons h,List.flatten_cons]
 -- each code point is one that stands for a list
 have hc:∃x,x≠[]/\(pts l)[k]=a7_ x:=by
  have:∀(n:Nat) (l:List UInt8) (c:List UInt8),c∈chunks n l->∃x,x≠[]/\c=a7_ x:=by
   intro n
   induction n with
   |zero=>intro l c hc;simp[chunks]at hc
   |succ n ih=>
    intro l c hc;unfold chunks at hc
    split at hc
    ·simp at hc
    rename_i hl
    rcases List.mem_cons.1 hc with rfl|hc
    ·exact⟨l,hl,rfl⟩
    exact ih _ _ hc
  exact this l.length l _ (List.getElem_mem h)
 obtain⟨x,hx,e⟩:=hc;rw[e];exact e1_ x _ hx
end U
namespace T
theorem iY_{a b:ByteArray}(h:a=b):Ending.returned (.string a)=.returned (.string b):=by rw[h]
theorem fs_(l:List UInt8):(⟨l.toArray⟩:ByteArray).data.toList=l:=by simp
theorem aN_(l:List UInt8):(⟨l.toArray⟩:ByteArray).size=l.length:=by show l.toArray.size=_;simp
theorem off_lt(l:List UInt8)(k:Nat)(h:k<(U.pts l).length):U.off (U.pts l) k<(U.rep l).length:=by
 have h1:=U.jU_ (U.pts l) k h;have h2:U.off (U.pts l) (k+1)<=(U.rep l).length:=U.jW_ (U.pts l) (k+1);have h3:=(U.pc_ l k h).2;have h4:=U.cs_ ((U.rep l).drop (U.off (U.pts l) k));omega
theorem next_at(l:List UInt8)(wr:World)(b k:Nat)(h:k<(U.pts l).length)(hit:wr.heap[b]?=some (.stringIter ⟨(U.rep l).toArray⟩ (U.off (U.pts l) k))) :
  ∃C:Nat,∀ty,(Instr.next (.pointer (some ⟨b,0,none⟩)) true ty).run Tryz.prog wr=.ok (.tuple #[.bool true,.int .i64 (U.off (U.pts l) k:Nat),.int .i32 (C:Nat)]) (wr.iterAt b ⟨(U.rep l).toArray⟩ (U.off (U.pts l) (k+1))):=by
 have hlt:=off_lt l k h;have hlt':U.off (U.pts l) k<(⟨(U.rep l).toArray⟩:ByteArray).size:=by rw[aN_];exact hlt
 refine⟨(Utf8.decode ⟨(U.rep l).toArray⟩ (U.off (U.pts l) k)).1,fun ty=>?_⟩;rw[Lib.run_next_any_at wr b ⟨(U.rep l).toArray⟩ (U.off (U.pts l) k) ty hit hlt'];have e:(Utf8.decode ⟨(U.rep l).toArray⟩ (U.off (U.pts l) k)).2=(U.pts l)[k].length:=by
  rw[U.dT_ _ _ hlt',fs_];exact(U.pc_ l k h).2
 rw[e,U.jU_ _ _ h]
theorem nX_(l:List UInt8)(wr:World)(b k:Nat)(h:(U.pts l).length<=k)(hit:wr.heap[b]?=some (.stringIter ⟨(U.rep l).toArray⟩ (U.off (U.pts l) k))) :
  ∀ty,(Instr.next (.pointer (some ⟨b,0,none⟩)) true ty).run Tryz.prog wr=.ok (.tuple #[.bool false]) wr:=fun ty=>by
 refine Lib.run_next_end_at wr b ⟨(U.rep l).toArray⟩ (U.off (U.pts l) k) ty hit ?_;rw[aN_,U.jc_ _ _ h];exact Nat.lt_irrefl _
def lJ_(L:List (List UInt8))(f k:Nat):Nat:=if f<k then U.off L f else L.flatten.length
def SlRel(l:List UInt8)(f t:Nat)(w1:World)(st en n:Value)(wr:World):Prop:=
 ∃k:Nat,k<=(U.pts l).length/\k<=t/\st=.int .i64 (lJ_ (U.pts l) f k:Nat)/\en=.int .i64 ((U.rep l).length:Nat)/\n=.int .i64 (k:Nat) ∧
  wr.heap[w1.heap.size]?=some (.stringIter ⟨(U.rep l).toArray⟩ (U.off (U.pts l) k))/\Below w1.heap.size w1 wr
theorem hT_(R:List UInt8)(a b:Nat)(h:a<=b)(hb:b<=R.length):(⟨R.toArray⟩:ByteArray).extract a b=⟨((R.drop a).take (b-a)).toArray⟩:=by
 have:=extract_eq ⟨R.toArray⟩ a (b-a) (by rw[aN_];omega);rw[fs_,show a+(b-a)=b by omega]at this;exact this
theorem ls_(s:ByteArray)(a:Int)(f t:Nat)(w:World)(hs:s.size<=1000000)(hT:Tabs w)(hmx:max a 0=(f:Int))(hft:f<t) :
  Calls Tryz.prog 54 #[.string s,.int .i64 a,.int .i64 (t:Int)] w fun e w'=>e=.returned (.string ⟨(U.sl (U.pts s.data.toList) f t).toArray⟩)/\Below w.heap.size w w':=by
 have hc:=hi_ (Repair s w hs hT);have hrl:=U.gW_ s.data.toList;rw[U.dw_]at hrl;have hpl:=U.cS_ s.data.toList;rw[U.dw_]at hpl;generalize s.data.toList=l at *
 go_enter Tryz.func54,Tryz.ntmps54
 go_wp2_with (go_at_call 104;refine hc.out.mono ?_)
 rintro e w1 ⟨rfl,b1⟩;have zw:=b1.size;have hsz:=aN_ (U.rep l);have HSZ:=hi_ hsz;clear hsz;go_wp2_with fail
 go_loopw [7,8,9] (fun st en n wr=>SlRel l f t w1 st en n wr) (fun _ _ n _=>(U.pts l).length-(Go.RowKit.intOf n).toNat)
 case atStart=>
  refine⟨0,Nat.zero_le _,Nat.zero_le _,?_,rfl,rfl,?_,(Below.refl _ w1).alloc (nl_) _⟩
  ·unfold lJ_;rw[if_neg (by omega)];rfl
  have:=World.iter_heap w1 ⟨(U.rep l).toArray⟩ 0;simpa[U.off]using this
 obtain⟨k,hkN,hkt,rfl,rfl,rfl,hit,hB⟩:=hrel;have hsz:w1.heap.size<wr.heap.size:=(Array.getElem?_eq_some_iff.1 hit).1;have hok:=U.jW_ (U.pts l) k;have hof:=U.jW_ (U.pts l) f;have hRL:(U.pts l).flatten.length=(U.rep l).length:=rfl;rw[hRL]at hok hof;clear hRL
 by_cases hk:k<(U.pts l).length
 ·obtain⟨C,hnx⟩:=next_at l wr w1.heap.size k hk hit
  have hit2:=Lib.iterAt_heap wr w1.heap.size ⟨(U.rep l).toArray⟩ (U.off (U.pts l) k) (U.off (U.pts l) (k+1)) hit;have hB2:=Lib.below_iterAt hB (k:=w1.heap.size) (nl_) ⟨(U.rep l).toArray⟩ (U.off (U.pts l) (k+1))
  by_cases hkt2:k=t
  ·-- the slice ends here
   have hst:lJ_ (U.pts l) f k=U.off (U.pts l) f:=by unfold lJ_;rw[if_pos (by omega)]
   have hmono:=U.jV_ (U.pts l) (show f<=k by omega);rw[hst];have hres:(⟨(U.rep l).toArray⟩:ByteArray).extract (U.off (U.pts l) f) (U.off (U.pts l) k)=⟨(U.sl (U.pts l) f t).toArray⟩:=by
    rw[hT_ (U.rep l) _ _ hmono (U.jW_ (U.pts l) k),<-hkt2,<-U.oW_ _ _ _ (by omega)];rfl
   have HRES:=hi_ hres;clear hres hst;generalize U.off (U.pts l) f=F at *;generalize U.off (U.pts l) k=K at *;have t1:((k:Int)==(f:Int))=false:=bn_ (by omega);have t2:((k:Int)==(t:Int))=true:=beq_iff_eq.2 (by omega);have HK:=hi_ hkt2;clear hkt2;go_wp2_with fail
   go_ret
   exact⟨iY_ HRES.o,b1.trans (hB2.mono (by omega))⟩
  have t2:((k:Int)==(t:Int))=false:=bn_ (by omega)
  by_cases hkf:k=f
  ·have t1:((k:Int)==(f:Int))=true:=beq_iff_eq.2 (by omega)
   have HST:=hi_ (show lJ_ (U.pts l) f (k+1)=U.off (U.pts l) k by unfold lJ_;rw[if_pos (by omega),hkf]);have HKF:=hi_ hkf;clear hkf;go_wp2_with fail
   go_roundw
   case rel=>exact⟨k+1,by omega,by omega,by rw[HST.o],rfl,by go_num,hit2,hB2⟩
   simp[Go.RowKit.intOf];omega
  have t1:((k:Int)==(f:Int))=false:=bn_ (by omega);have HST:=hi_ (show lJ_ (U.pts l) f (k+1)=lJ_ (U.pts l) f k by unfold lJ_;by_cases h:f<k;rw[if_pos h,if_pos (by omega)];rw[if_neg h,if_neg (by omega)]);clear hkf;go_wp2_with fail
  go_roundw
  case rel=>exact⟨k+1,by omega,by omega,by rw[HST.o],rfl,by go_num,hit2,hB2⟩
  simp[Go.RowKit.intOf];omega
 have hnx:=nX_ l wr w1.heap.size k (by omega) hit;have hst:lJ_ (U.pts l) f k=U.off (U.pts l) f:=by
  unfold lJ_
  by_cases h:f<k
  ·rw[if_pos h]
  rw[if_neg h,U.jc_ _ _ (by omega)]
 have hres:(⟨(U.rep l).toArray⟩:ByteArray).extract (U.off (U.pts l) f) (U.rep l).length=⟨(U.sl (U.pts l) f t).toArray⟩:=by
  rw[hT_ (U.rep l) _ _ hof (nl_),<-U.oW_ _ f t (by omega),U.jc_ _ t (by omega)];rfl
 rw[hst];have HRES:=hi_ hres;clear hres hst;generalize U.off (U.pts l) f=F at *;go_wp2_with fail
 go_ret
 exact⟨iY_ HRES.o,b1.trans (hB.mono (by omega))⟩
theorem lt_(s:ByteArray)(a b:Int)(f:Nat)(w:World)(hmx:max a 0=(f:Int))(hft:b<=f) :
  Calls Tryz.prog 54 #[.string s,.int .i64 a,.int .i64 b] w fun e w'=>e=.returned (.string ⟨#[]⟩)/\Below w.heap.size w w':=by
 go_enter Tryz.func54,Tryz.ntmps54
 go_wp2_with fail
 go_ret
 exact⟨rfl,br_⟩
theorem Slice(s:ByteArray)(a b:Int)(w:World)(hs:s.size<=1000000)(hT:Tabs w) :
  Calls Tryz.prog 54 #[.string s,.int .i64 a,.int .i64 b] w fun e w'=>e=.returned (.string ⟨(U.sl (U.pts s.data.toList) a.toNat b.toNat).toArray⟩)/\Below w.heap.size w w':=by
 have hmx:max a 0=((a.toNat:Nat):Int):=by omega
 by_cases h:b<=(a.toNat:Int)
 ·rw[U.fC_ _ _ _ (by omega)]
  exact lt_ s a b a.toNat w hmx h
 obtain⟨t,rfl⟩:=Int.eq_ofNat_of_zero_le (show 0<=b by omega);rw[Int.toNat_natCast];exact ls_ s a a.toNat t w hs hT hmx (by omega)
end T
end
section
open Go.RowKit
namespace N
theorem km_{B:Nat}{w w':World}(h:Below B w w')(n:Nat):Below B w (w'.drewN n):=⟨h.os,h.tape,h.output,h.size,h.block⟩
def Asc(s:ByteArray):Prop:=∀(j:Nat) (h:j<s.size),(s[j]'h).toNat<128
theorem noByte{l:List UInt8}{b:UInt8}(hl:∀x∈l,x.toNat<128)(hb:128<=b.toNat):Lib.indexByte l b=-1:=by
 induction l with
 |nil=>rfl
 |cons a t ih=>
  have h1:=hl a (by simp);have h2:¬a=b:=fun e=>by rw[e]at h1;omega
  rw[Lib.indexByte,ih (fun x hx=>hl x (by simp[hx]))];simp[h2]
def RelR(s:ByteArray)(w1:World)(wr:World):Prop:=∃pos:Nat,pos<=s.size/\wr.heap[w1.heap.size]?=some (.stringIter s pos)/\Below w1.heap.size w1 wr
def eH_(w:World)(b:Nat):Nat:=match w.heap[b]? with|some (.stringIter s pos)=>s.size-pos|_=>0
theorem gE_(s:ByteArray)(w:World)(hs:Asc s)(hsz:s.size<=100) :
  Calls Tryz.prog 170 #[.string s,.int .i32 65533] w fun e w'=>e=.returned (.int .i64 (-1))/\Below w.heap.size w w':=by
 go_enter Tryz.func170,Tryz.ntmps170
 go_wp2_with fail
 go_loopw [4] (fun v wr=>v=.int .i64 0/\RelR s w wr) (fun _ wr=>eH_ wr w.heap.size)
 case atStart=>exact⟨rfl,0,Nat.zero_le _,by simpa using World.iter_heap w s 0,(Below.refl _ w).alloc (nl_) _⟩
 obtain⟨rfl,pos,hp,hit,hB⟩:=hrel
 by_cases hlt:pos<s.size
 ·have hnx:=fun ty=>Lib.run_next_ascii_at (P:=Tryz.prog) wr w.heap.size s pos ty hit hlt (hs pos hlt)
  have hlt2:=hs pos hlt;have hit2:=Lib.iterAt_heap wr w.heap.size s pos (pos+1) hit;have hB2:=Lib.below_iterAt hB (k:=w.heap.size) (nl_) s (pos+1);generalize s[pos]=c at *;have t1:((c.toNat:Int)==65533)=false:=bn_ (by omega);have t2:¬(c.toNat:Int)=65533:=by omega
  have HM:Hd (eH_ (wr.iterAt w.heap.size s (pos+1)) w.heap.size<eH_ wr w.heap.size):=hi_ (by unfold eH_;rw[hit2,hit];show s.size-(pos+1)<s.size-pos;omega);clear hlt2;go_wp2_with fail
  go_roundw
  case rel=>exact⟨rfl,pos+1,by omega,hit2,hB2⟩
  exact HM.o
 have hnx:=fun ty=>Lib.run_next_end_at (P:=Tryz.prog) wr w.heap.size s pos ty hit hlt;go_wp2_with fail
 go_ret
 exact⟨rfl,hB⟩
def Good(E:ByteArray):Prop:=∃k:Nat,∃h:E.size=k+1,k<=3/\128<=(E[k]'(by omega)).toNat
theorem ol_(r:Nat)(h1:128<=r)(h2:r<=1114111):Good (Utf8.encode (r:Int)):=by
 have key:∀c:Nat,128<=c->Good (if c<0x80 then⟨#[UInt8.ofNat c]⟩else if c<0x800 then⟨#[UInt8.ofNat (0xC0+c / 64),UInt8.ofNat (0x80+c % 64)]⟩else if c<0x10000 then⟨#[UInt8.ofNat (0xE0+c / 4096),UInt8.ofNat (0x80+c / 64 % 64),UInt8.ofNat (0x80+c % 64)]⟩ else⟨#[UInt8.ofNat (0xF0+c / 262144),UInt8.ofNat (0x80+c / 4096 % 64),UInt8.ofNat (0x80+c / 64 % 64),UInt8.ofNat (0x80+c % 64)]⟩):=by
  intro c hc;have hlast:128<=(UInt8.ofNat (0x80+c % 64)).toNat:=by
   rw[UInt8.toNat_ofNat'];omega
  rw[if_neg (by omega)]
  split
  ·exact⟨1,rfl,by omega,hlast⟩
  split
  ·exact⟨2,rfl,by omega,hlast⟩
  exact⟨3,rfl,by omega,hlast⟩
 unfold Utf8.encode;refine key _ ?_
 split
 ·omega
 unfold Utf8.runeError;omega
theorem gD_(s:ByteArray)(r:Nat)(w:World)(hs:Asc s)(hsz:s.size<=100)(h1:128<=r)(h2:r<=1114111)(h3:r≠65533) :
  Calls Tryz.prog 170 #[.string s,.int .i32 r] w fun e w'=>e=.returned (.int .i64 (-1))/\Below w.heap.size w w':=by
 have t0:(0:Int)<=(r:Int):=by omega
 have t1:¬(r:Int)<128:=by omega
 have t2:((r:Int)==65533)=false:=bn_ (by omega);have t3:¬(r:Int)=65533:=by omega
 have QV:=hi_ (Tryz.utf8_ValidRune r w);generalize Lib.validRune r=vr at *
 go_enter Tryz.func170,Tryz.ntmps170
 go_wp2_with fail
 refine QV.o.mono ?_;rintro e w2 ⟨rfl,rfl⟩
 cases vr with
 |false=>
  go_wp2_with fail
  go_ret
  exact⟨rfl,br_⟩
 |true=>
  have HE:=hi_ (ol_ r h1 h2);have HAsc:=hi_ hs;clear QV hs;go_wp2_with fail
  go_step3
  go_wp2_with fail
  obtain⟨E,hE⟩:∃E,E=Utf8.encode (r:Int):=⟨_,rfl⟩;rw[<-hE]at HE ⊢;clear hE;obtain⟨k,hk,hk4,hkb⟩:=HE.o;have hz:wrap64 ((E.size:Int)-1)=(k:Int):=by unfold wrap64;omega
  rw[hz];have hkE:(k:Int)<(E.size:Int):=by omega
  have HEs:=hi_ hk;have QB:=hi_ (fun(x:ByteArray) (c:UInt8) W=>(Tryz.strings_IndexByte x (c.toNat:Int) W).mono (R':=fun e w'=>e=.returned (.int .i64 (Lib.indexByte x.data.toList c))/\W=w') (fun _ _ h=>⟨by rw[h.1];simp,h.2.symm⟩))
  go_loopw [9] (fun v9 wr=>v9=.int .i64 k/\wr=w2) (fun _ _=>0)
  case atStart=>exact⟨rfl,rfl⟩
  obtain⟨rfl,rfl⟩:=hrel
  by_cases hks:k<s.size
  ·have hksI:(k:Int)<(s.size:Int):=by omega
   have hcs:=HAsc.o k hks;have hkE':k<E.size:=by omega
   have hne:((s[k]'hks).toNat:Int)≠((E[k]'hkE').toNat:Int):=by omega
   have hne2:(((s[k]'hks).toNat:Int)==((E[k]'hkE').toNat:Int))=false:=bn_ hne;have wk:wrap64 ((k:Int)+1)=(k:Int)+1:=by unfold wrap64;omega
   have wk2:IntKind.i64.wrap ((k:Int)+1)=(k:Int)+1:=IntWalk.i64_in _ (by omega);have hk0:(0:Int)<=(k:Int)+1:=by omega
   have hk1:(k:Int)+1<=(s.size:Int):=by omega
   have HNB:Hd (∀j,Lib.indexByte (s.extract j s.size).data.toList (E[k]'hkE')=-1):=hi_ (fun j=>noByte (fun x hx=>by
    have hx2:x∈s.data.toList:=by
     rw[ByteArray.data_extract,Array.toList_extract]at hx;exact List.mem_of_mem_drop (List.mem_of_mem_take hx)
    obtain⟨i,hi,rfl⟩:=List.mem_iff_getElem.1 hx2;exact HAsc.o i (by simpa using hi)) hkb)
   have Q1:∀W:World,Calls Tryz.prog 153 #[.string (s.extract (k+1) s.size),.int .u8 ((E[k]'hkE').toNat:Int)] W fun e w'=>e=.returned (.int .i64 (-1))/\W=w':=fun W=>by
    have h:=QB.o (s.extract (k+1) s.size) (E[k]'hkE') W;rw[HNB.o]at h;exact h
   have Q:=hi_ Q1;clear hkb hk Q1 HNB QB;go_wp2_with fail
   go_step3
   go_wp2_with fail
   go_quiet (fail)
   go_wp2_with fail
   have HBw:=hi_ (km_ (Below.refl wr.heap.size wr) nq);generalize wr.drewN nq=wz at *
   go_quiet ((go_at_call 153;exact H.nQ_ (Q.o _)))
   go_wp2_with fail
   rw[Exit.noGoto_ret];change bodyPost _ _ (fun e w'=>e=Ending.returned (Value.int IntKind.i64 (-1))/\Below wr.heap.size wr w') Exit.ret _ _;go_ret
   exact⟨rfl,km_ HBw.o _⟩
  have hksI:¬(k:Int)<(s.size:Int):=by omega
  go_wp2_with fail
  go_ret
  exact⟨rfl,br_⟩
theorem ie_(s:ByteArray)(r:Nat)(w:World)(hs:Asc s)(hsz:s.size<=100)(h1:128<=r)(h2:r<=1114111) :
  Calls Tryz.prog 170 #[.string s,.int .i32 r] w fun e w'=>e=.returned (.int .i64 (-1))/\Below w.heap.size w w':=by
 by_cases h3:r=65533
 ·subst h3;exact gE_ s w hs hsz
 exact gD_ s r w hs hsz h1 h2 h3
end N
end
section
open Go.RowKit
namespace T
theorem sl_snoc(L:List (List UInt8))(f k:Nat)(hf:f<=k)(hk:k<L.length):U.sl L f (k+1)=U.sl L f k++L.getD k []:=by
 unfold U.sl;rw[List.take_succ_eq_append_getElem hk,List.drop_append_of_le_length (by rw[List.length_take];omega),List.flatten_append];simp[List.getD,hk]
theorem io_(L:List (List UInt8))(n:Nat):(L.drop n).flatten.length<=L.flatten.length:=by
 have e:L.flatten=(L.take n).flatten++(L.drop n).flatten:=by rw[<-List.flatten_append,List.take_append_drop]
 rw[e,List.length_append];omega
theorem in_(L:List (List UInt8))(n:Nat):(L.take n).flatten.length<=L.flatten.length:=by
 have e:L.flatten=(L.take n).flatten++(L.drop n).flatten:=by rw[<-List.flatten_append,List.take_append_drop]
 rw[e,List.length_append];omega
theorem sl_length(L:List (List UInt8))(f k:Nat):(U.sl L f k).length<=L.flatten.length:=by
 unfold U.sl;exact Nat.le_trans (io_ _ _) (in_ _ _)
def StrRow(w:World)(ao:Option Addr)(L:List (List UInt8)):Prop:=
 0<L.length->∃g,ao=some ⟨g,0,none⟩/\g<w.heap.size/\∀j,j<L.length->w.cell? ⟨g,j,none⟩=some (.string ⟨(L.getD j []).toArray⟩)
theorem StrRow.below{w w':World}{ao:Option Addr}{L:List (List UInt8)}(h:StrRow w ao L)(b:Below w.heap.size w w'):StrRow w' ao L:=fun hl=>by
 obtain⟨g,e,hg,hc⟩:=h hl;exact⟨g,e,Nat.lt_of_lt_of_le hg b.size,fun j hj=>(b.cell (p:=⟨g,j,none⟩) hg).trans (hc j hj)⟩
theorem iK_(a b:List UInt8):(⟨a.toArray⟩:ByteArray)++⟨b.toArray⟩=⟨(a++b).toArray⟩:=by
 have h:((⟨a.toArray⟩:ByteArray)++⟨b.toArray⟩).data=a.toArray++b.toArray:=by
  simp[ByteArray.data_append]
 cases hx:(⟨a.toArray⟩:ByteArray)++⟨b.toArray⟩ with
 |mk d=>rw[hx]at h;simp at h;rw[h]
theorem refJoin(ao:Option Addr)(cap:Nat)(L:List (List UInt8))(a b:Int)(f:Nat)(w:World)(hL:L.flatten.length<=1000000)(hN:L.length<=1000000)(hr:StrRow w ao L)(hmx:max a 0=(f:Int))(hb:b<=L.length) :
  Calls Tryz.prog 56 #[.slice ao L.length cap,.int .i64 a,.int .i64 b] w fun e w'=>e=.returned (.string ⟨(U.sl L f b.toNat).toArray⟩)/\w=w':=by
 have HR:=hi_ hr;clear hr
 go_enter Tryz.func56,Tryz.ntmps56
 go_wp2_with fail
 go_loop [7,8] (fun o i=>∃k:Nat,f<=k/\(k<=L.length\/k=f)/\(k<=b.toNat\/k=f)/\i=.int .i64 k/\o=.string ⟨(U.sl L f k).toArray⟩) (fun _ i=>L.length-(Go.RowKit.intOf i).toNat)
 case atStart=>exact⟨f,nl_,.inr rfl,.inr rfl,rfl,by rw[U.fC_ _ _ _ (nl_)]⟩
 obtain⟨k,hfk,hk1,hk2,rfl,rfl⟩:=hrel;have hl1:=sl_length L f k
 by_cases hkb:(k:Int)<b
 ·have hkL:k<L.length:=by omega
  obtain⟨g,rfl,hg,hc⟩:=HR.o (by omega);have hcell:=hc k hkL;have HS:=hi_ (sl_snoc L f k hfk hkL);have hl2:=sl_length L f (k+1);rw[HS.o,List.length_append]at hl2;clear hc;have hab:=iK_ (U.sl L f k) (L.getD k []);have HAB:=hi_ hab;clear hab;generalize L.getD k []=c at *;have z1:=aN_ (U.sl L f k);have z2:=aN_ c;have zz:((⟨(U.sl L f k).toArray⟩:ByteArray).size:Int)+((⟨c.toArray⟩:ByteArray).size:Int)<=1000000:=by omega
  clear z1 z2;generalize U.sl L f k=q at *;go_wp2_with fail
  go_round
  case rel=>exact⟨k+1,by omega,.inl (by omega),.inl (by omega),by go_num,by rw[HS.o];simp only[HAB.o]⟩
  simp[Go.RowKit.intOf];omega
 have hkb':b<=(k:Int):=by omega
 have HE:=hi_ (show U.sl L f k=U.sl L f b.toNat by
  rcases hk2 with h|h
  ·rw[show b.toNat=k by omega]
  rw[h,U.fC_ _ _ _ (nl_),U.fC_ _ _ _ (by omega)])
 clear hkb;go_wp2_with fail
 go_ret
 exact⟨iY_ (by rw[HE.o]),rfl⟩
end T
end
section
open Go.RowKit
namespace N
theorem ib_ge:∀(l:List UInt8) (b:UInt8),decide (0<=Lib.indexByte l b)=l.contains b
 |[],b=>rfl
 |a :: t,b=>by
  have ih:=ib_ge t b;have hg:=Lib.indexByte_ge t b;rw[Lib.indexByte]
  by_cases h:a=b
  ·subst h;simp
  have h1:(a==b)=false:=by simpa using h
  have h2:¬b=a:=fun e=>h e.symm;rw[h1]
  by_cases h3:Lib.indexByte t b=-1
  ·have h4:t.contains b=false:=by rw[<-ih,h3];rfl
   simp[h3];refine⟨h2,?_⟩;simpa using h4
  have h4:t.contains b=true:=by rw[<-ih];simp;omega
  have h5:(Lib.indexByte t b == -1)=false:=by simpa using h3
  rw[h5];have h6:0<=Lib.indexByte t b+1:=by omega
  simp[h6];exact Or.inr (by simpa using h4)
theorem kV_(l:List UInt8)(hne:l≠[])(h:128<=(l.getD 0 0).toNat) :
  128<=U.code (U.a7_ l)/\U.code (U.a7_ l)<=1114111/\1<=U.adv l/\U.adv l<=l.length/\∀j,j<U.adv l->128<=(l.getD j 0).toNat:=by
 have hp:=U.cs_ l;have hle:=U.hf_ l hne;have b0:=(l.getD 0 0).toNat_lt;have b1:=(l.getD 1 0).toNat_lt;have b2:=(l.getD 2 0).toNat_lt;have b3:=(l.getD 3 0).toNat_lt;rw[U.dA_]
 rcases U.hk_ l with⟨hs,h1⟩|⟨hs,h1⟩|⟨hs,h1⟩|⟨hs,h1⟩|⟨hs,_⟩
 ·unfold U.one at h1;omega
 ·have hc:=U.cq_ l (by omega)
  have ha:U.adv l=2:=by unfold U.adv;rw[hs];rfl
  rw[if_neg (by omega),hc,hs,ha];unfold U.two at h1;simp only[Nat.reduceEqDiff,if_false,if_true];refine⟨by omega,by omega,by omega,by omega,fun j hj=>?_⟩;have:j=0\/j=1:=by omega
  rcases this with rfl|rfl<;>omega
 ·have hc:=U.cq_ l (by omega)
  have ha:U.adv l=3:=by unfold U.adv;rw[hs];rfl
  rw[if_neg (by omega),hc,hs,ha];unfold U.three U.sec at h1;simp only[Nat.reduceEqDiff,if_false,if_true];refine⟨by omega,by omega,by omega,by omega,fun j hj=>?_⟩;have:j=0\/j=1\/j=2:=by omega
  rcases this with rfl|rfl|rfl<;>omega
 ·have hc:=U.cq_ l (by omega)
  have ha:U.adv l=4:=by unfold U.adv;rw[hs];rfl
  rw[if_neg (by omega),hc,hs,ha];unfold U.four U.sec at h1;simp only[Nat.reduceEqDiff,if_false,if_true];refine⟨by omega,by omega,by omega,by omega,fun j hj=>?_⟩;have:j=0\/j=1\/j=2\/j=3:=by omega
  rcases this with rfl|rfl|rfl|rfl<;>omega
 have ha:U.adv l=1:=by unfold U.adv;rw[hs];rfl
 rw[if_pos hs,ha];refine⟨by omega,by omega,by omega,by rw[ha]at hle;exact hle,fun j hj=>?_⟩;have:j=0:=by omega
 subst this;exact h
theorem decode_high(s:ByteArray)(pos:Nat)(h:pos<s.size)(hb:128<=(s[pos]'h).toNat) :
  128<=(Utf8.decode s pos).1/\(Utf8.decode s pos).1<=1114111/\1<=(Utf8.decode s pos).2/\pos+(Utf8.decode s pos).2<=s.size/\∀j b,pos<=j->j<pos+(Utf8.decode s pos).2->s.data.toList[j]?=some b->128<=b.toNat:=by
 have hl:(s.data.toList.drop pos).length=s.size-pos:=by simp
 have hne:s.data.toList.drop pos≠[]:=fun e=>by rw[e]at hl;simp at hl;omega
 have h0:(s.data.toList.drop pos).getD 0 0=s[pos]'h:=by
  rw[U.getD_drop,Nat.add_zero,List.getD_eq_getElem?_getD,List.getElem?_eq_getElem (by simpa using h)];rfl
 obtain⟨a1,a2,a3,a4,a5⟩:=kV_ _ hne (by rw[h0];exact hb);rw[U.dT_ s pos h];rw[hl]at a4;refine⟨a1,a2,a3,by omega,fun j b h1 h2 hj=>?_⟩;have h3:=a5 (j-pos) (by omega);rw[U.getD_drop,show pos+(j-pos)=j by omega,List.getD_eq_getElem?_getD,hj]at h3;exact h3
theorem NoAny.high{s chars:List UInt8}{p d:Nat}(h:Lib.NoAny s chars p)(hc:∀x∈chars,x.toNat<128)(hb:∀j b,p<=j->j<p+d->s[j]?=some b->128<=b.toNat):Lib.NoAny s chars (p+d):=fun j b hj hb2=>by
 rcases Nat.lt_or_ge j p with h1|h1
 ·exact h j b h1 hb2
 have h2:=hb j b h1 hj hb2
 cases h3:chars.contains b with
 |false=>rfl
 |true=>have:=hc b (List.contains_iff_mem.1 h3);omega
def RelA(s chars:ByteArray)(w1:World)(v:Value)(wr:World):Prop:=∃pos:Nat,pos<=s.size/\v=.int .i64 0/\wr.heap[w1.heap.size]?=some (.stringIter s pos)/\Below w1.heap.size w1 wr/\Hd (Lib.NoAny s.data.toList chars.data.toList pos)
theorem gF_(s chars:ByteArray)(w:World)(hs:s.size<=8)(ha:Asc chars)(hc2:2<=chars.size)(hcz:chars.size<=100) :
  Calls Tryz.prog 165 #[.string s,.string chars] w fun e w'=>e=.returned (.int .i64 (Lib.indexAny s.data.toList chars.data.toList))/\Below w.heap.size w w':=by
 have hal:∀x∈chars.data.toList,x.toNat<128:=fun x hx=>by
  obtain⟨i,hi,rfl⟩:=List.mem_iff_getElem.1 hx;exact ha i (by simpa using hi)
 have HAl:=hi_ hal;have QU:=hi_ (Tryz.strings_shouldUseASCIISet (s.size:Int) w);have e1:decide ((8:Int)<(s.size:Int))=false:=decide_eq_false (by omega);rw[e1]at QU;have hce2:chars.toList.isEmpty=false:=by
  rw[Lib.toList_data];have:chars.data.toList.length=chars.size:=by simp
  cases h:chars.data.toList with
  |nil=>rw[h]at this;simp at this;omega
  |cons _ _=>rfl
 have hc1:¬(chars.size:Int)=1:=by omega
 have hc1':((chars.size:Int)==1)=false:=bn_ hc1;have QA:=hi_ (fun(c:UInt8) (h:c.toNat<128) W=>(Tryz.strings_IndexRune_ascii chars (c.toNat:Int) W (by omega) (by omega)).mono (R':=fun e w'=>e=.returned (.int .i64 (Lib.indexByte chars.data.toList c))/\w'=W) (fun _ _ h=>⟨by rw[h.1];simp,h.2⟩));have QH:=hi_ (fun(r:Nat) (h1:128<=r) (h2:r<=1114111) W=>ie_ chars r W ha hcz h1 h2);clear e1 hal ha
 go_enter Tryz.func165,Tryz.ntmps165
 go_wp2_with fail
 refine QU.o.mono ?_;rintro e w2 ⟨rfl,rfl⟩;clear QU;go_wp2_with fail
 go_loopw [4] (fun v wr=>RelA s chars w2 v wr) (fun _ wr=>eH_ wr w2.heap.size)
 case atStart=>exact⟨0,Nat.zero_le _,rfl,by simpa using World.iter_heap w2 s 0,(Below.refl _ w2).alloc (nl_) _,hi_ (Lib.NoAny.zero _ _)⟩
 obtain⟨pos,hp,rfl,hit,hB,HN⟩:=hrel
 by_cases hlt:pos<s.size
 ·have hget:s.data.toList[pos]?=some (s[pos]'hlt):=by rw[List.getElem?_eq_getElem (by simpa using hlt)];rfl
  by_cases hb:(s[pos]'hlt).toNat<128
  ·have hnx:=fun ty=>Lib.run_next_ascii_at (P:=Tryz.prog) wr w2.heap.size s pos ty hit hlt hb
   have hit2:=Lib.iterAt_heap wr w2.heap.size s pos (pos+1) hit;have hB2:=Lib.below_iterAt hB (k:=w2.heap.size) (nl_) s (pos+1);have HM:Hd (eH_ (wr.iterAt w2.heap.size s (pos+1)) w2.heap.size<eH_ wr w2.heap.size):=hi_ (by unfold eH_;rw[hit2,hit];show s.size-(pos+1)<s.size-pos;omega);have Q1:=hi_ (QA.o (s[pos]'hlt) hb (wr.iterAt w2.heap.size s (pos+1)));have hge:=ib_ge chars.data.toList (s[pos]'hlt);generalize s[pos]=c at *;generalize hz:Lib.indexByte chars.data.toList c=z at *;have HIt:=hi_ hit2;have HB2:=hi_ hB2;have HGet:=hi_ hget;clear hget hb
   cases hcc:chars.data.toList.contains c with
   |true=>
    rw[hcc]at hge;have g1:(0:Int)<=z:=by simpa using hge
    have HV:=hi_ (Lib.indexAny_hit HN.o HGet.o hcc);clear hge hcc hz hit2 hB2;go_wp2_with fail
    refine Q1.o.mono ?_;rintro e w4 ⟨rfl,rfl⟩;go_wp2_with fail
    go_ret
    exact⟨H.lV_ HV.o.symm,HB2.o⟩
   |false=>
    rw[hcc]at hge;have g1:¬(0:Int)<=z:=by simpa using hge
    have HV:=hi_ (Lib.NoAny.succ HN.o HGet.o hcc);clear hge hcc hz hit2 hB2;go_wp2_with fail
    refine Q1.o.mono ?_;rintro e w4 ⟨rfl,rfl⟩;go_wp2_with fail
    go_roundw
    case rel=>exact⟨pos+1,by omega,rfl,HIt.o,HB2.o,HV⟩
    exact HM.o
  obtain⟨d1,d2,d3,d4,d5⟩:=decode_high s pos hlt (by omega);have hnx:=fun ty=>Lib.run_next_any_at (P:=Tryz.prog) wr w2.heap.size s pos ty hit hlt;generalize Utf8.decode s pos=dec at *;obtain⟨C,D⟩:=dec;have hit2:=Lib.iterAt_heap wr w2.heap.size s pos (pos+D) hit;have hB2:=Lib.below_iterAt hB (k:=w2.heap.size) (nl_) s (pos+D);have d3':1<=D:=d3;have d4':pos+D<=s.size:=d4;have HM:Hd (eH_ (wr.iterAt w2.heap.size s (pos+D)) w2.heap.size<eH_ wr w2.heap.size):=hi_ (by unfold eH_;rw[hit2,hit];show s.size-(pos+D)<s.size-pos;omega);have Q1:=hi_ (QH.o C d1 d2 (wr.iterAt w2.heap.size s (pos+D)));have HV:Hd (Lib.NoAny s.data.toList chars.data.toList (pos+D)):=hi_ (NoAny.high HN.o HAl.o d5);have HIt:=hi_ hit2;have HB2:=hi_ hB2
  have hlt2:w2.heap.size<(wr.iterAt w2.heap.size s (pos+D)).heap.size:=(Array.getElem?_eq_some_iff.1 hit2).1;have hnx':∀ty,(Instr.next (.pointer (some ⟨w2.heap.size,0,none⟩)) true ty).run Tryz.prog wr=.ok (.tuple #[.bool true,.int .i64 pos,.int .i32 (C:Nat)]) (wr.iterAt w2.heap.size s (pos+D)):=hnx;clear hget hb hnx d1 d2 d5 hit2 hB2 d3 d4;generalize wr.iterAt w2.heap.size s (pos+D)=wi at *;go_wp2_with fail
  refine Q1.o.mono ?_;rintro e w4 ⟨rfl,hb4⟩;have HIt4:Hd (w4.heap[w2.heap.size]?=some (.stringIter s (pos+D))):=hi_ ((hb4.block _ hlt2).trans HIt.o);have HM4:Hd (eH_ w4 w2.heap.size<eH_ wr w2.heap.size):=hi_ (by have h:=HM.o;unfold eH_ at h ⊢;rw[HIt4.o];rw[HIt.o]at h;exact h);have HB4:=hi_ (HB2.o.trans (hb4.mono (Nat.le_of_lt hlt2)));go_wp2_with fail
  go_roundw
  case rel=>exact⟨pos+D,d4',rfl,HIt4.o,HB4.o,HV⟩
  exact HM4.o
 have hnx:=fun ty=>Lib.run_next_end_at (P:=Tryz.prog) wr w2.heap.size s pos ty hit hlt;have hpe:pos=s.size:=by omega
 have HV:Hd (Lib.indexAny s.data.toList chars.data.toList=-1):=hi_ (Lib.indexAny_none (by have h:=HN.o;rw[hpe]at h;simpa using h));clear hpe;go_wp2_with fail
 go_ret
 exact⟨H.lV_ HV.o.symm,hB⟩
def CS:ByteArray:=⟨#[9,10,12,13,32,47,62]⟩
theorem oy_{l:List UInt8}(h:∀b∈l,b.toNat<128):Asc ⟨l.toArray⟩:=fun j hj=>h _ (by
 have h2:j<l.length:=by rw[H.aN_]at hj;exact hj
 exact List.getElem_mem h2)
theorem o9_:Asc CS:=oy_ (l:=[9,10,12,13,32,47,62]) (by decide)
theorem if_(s:ByteArray)(w:World)(hs:s.size<4294967281) :
  Calls Tryz.prog 165 #[.string s,.string CS] w fun e w'=>e=.returned (.int .i64 (Lib.indexAny s.data.toList CS.data.toList))/\Below w.heap.size w w':=by
 rcases Nat.lt_or_ge 8 s.size with h|h
 ·refine(Tryz.strings_IndexAny_long (zero_of_info (n:=256) (by kernel_rfl)).1 s CS w (by decide) h hs (by decide) (fun j b hb=>?_)).mono ?_
  ·have hj:j<CS.data.toList.length:=by
    rcases Nat.lt_or_ge j CS.data.toList.length with h1|h1
    ·exact h1
    rw[List.getElem?_eq_none h1]at hb;cases hb
   rw[List.getElem?_eq_getElem hj]at hb;injection hb with hb
   rw[<-hb];exact o9_ j hj
  rintro e w' ⟨h1,h2⟩;exact⟨h1,by rw[h2];exact((Below.refl _ w).alloc (nl_) _).alloc (by simp) _⟩
 exact gF_ s CS w h o9_ (by decide) (by decide)
theorem fq_(s:ByteArray)(w:World)(hs:s.size<4294967281) :
  Calls Tryz.prog 150 #[.string s,.string ⟨#[9,10,12,13,32,47,62]⟩] w fun e w'=>e=.returned (.bool (decide (0<=Lib.indexAny s.data.toList CS.data.toList)))/\Below w.heap.size w w':=by
 have Q:=hi_ (if_ s w hs);generalize Lib.indexAny s.data.toList CS.data.toList=z at *;unfold CS at Q
 go_enter Tryz.func150,Tryz.ntmps150
 go_wp2_with fail
 refine Q.o.mono ?_;rintro e w1 ⟨rfl,b1⟩;go_wp2_with fail
 go_ret
 exact⟨H.ap_ (by first|rfl|simp[ge_iff_le]),b1⟩
def gC_(s:List UInt8):Bool:=decide (U.rep s=s) && decide (s.map T.low=s)
theorem o6_(s:ByteArray)(w:World)(hs:s.size<=100000)(hT:T.Tabs w) :
  Calls Tryz.prog 149 #[.string s] w fun e w'=>e=.returned (.bool (gC_ s.data.toList))/\Below w.heap.size w w':=by
 have QV:=hi_ (T.Valid s w (by omega) hT);have QL:=hi_ (fun W=>T.Lower s W (by omega));unfold gC_;generalize decide (U.rep s.data.toList=s.data.toList)=v at *
 go_enter Tryz.func149,Tryz.ntmps149
 go_wp2_with fail
 refine QV.o.mono ?_;rintro e w1 ⟨rfl,b1⟩
 cases v with
 |false=>
  go_wp2_with fail
  go_ret
  exact⟨rfl,b1⟩
 |true=>
  go_wp2_with fail
  refine(QL.o _).mono ?_;rintro e w2 ⟨rfl,b2⟩;have HB:=hi_ (b1.trans (b2.mono b1.size));go_wp2_with fail
  go_ret
  exact⟨H.ap_ (by rw[Lib.toList_data,Bool.true_and];rw[Bool.eq_iff_iff];simp),HB.o⟩
theorem ia_ge(chars:List UInt8):∀s:List UInt8,decide (0<=Lib.indexAny s chars)=s.any (fun b=>chars.contains b)
 |[]=>rfl
 |a :: t=>by
  have ih:=ia_ge chars t;have hg:=Lib.indexAny_ge chars t;rw[Lib.indexAny,List.any_cons]
  cases hc:chars.contains a with
  |true=>rfl
  |false=>
   rw[Bool.false_or,<-ih]
   by_cases h3:Lib.indexAny t chars=-1
   ·rw[h3];rfl
   have h5:(Lib.indexAny t chars == -1)=false:=by simpa using h3
   rw[h5];simp only[Bool.false_eq_true,if_false];rw[decide_eq_decide];omega
theorem low_all:∀s:List UInt8,decide (s.map T.low=s)=s.all (fun c=>!(decide (65<=c.toNat) && decide (c.toNat<=90)))
 |[]=>rfl
 |a :: t=>by
  rw[List.all_cons,<-low_all t,Bool.eq_iff_iff,Bool.and_eq_true,decide_eq_true_eq,decide_eq_true_eq,List.map_cons,List.cons.injEq];refine and_congr ?_ Iff.rfl;unfold T.low
  by_cases h:65<=a.toNat/\a.toNat<=90
  ·rw[if_pos h]
   simp only[h.1,h.2,decide_true,Bool.and_true,Bool.not_true,Bool.false_eq_true,iff_false];intro e;have:=congrArg UInt8.toNat e;rw[UInt8.toNat_ofNat']at this;omega
  rw[if_neg h];simp only[true_iff,Bool.not_eq_true',Bool.and_eq_false_iff,decide_eq_false_iff_not];omega
theorem nn_{α:Type}(p q:α->Bool):∀l:List α,l.all (fun x=>p x && q x)=(l.all p && l.all q)
 |[]=>rfl
 |a :: t=>by rw[List.all_cons,List.all_cons,List.all_cons,nn_ p q t];cases p a<;>cases q a<;>cases t.all p<;>rfl
theorem jw_{α:Type}(p:α->Bool):∀l:List α,(!l.any p)=l.all (fun x=>!p x)
 |[]=>rfl
 |a :: t=>by rw[List.any_cons,List.all_cons,Bool.not_or,jw_ p t]
theorem jr_(c:UInt8):CS.data.toList.contains c=(G.spB c || c==47 || c==62):=by
 show([9,10,12,13,32,47,62]:List UInt8).contains c=_;unfold G.spB;simp only[List.contains_cons,List.contains_nil,Bool.or_false,Bool.or_assoc]
theorem h4_(s:List UInt8):G.cL_ s=(!s.isEmpty && gC_ s && !decide (0<=Lib.indexAny s CS.data.toList)):=by
 unfold G.cL_ gC_;rw[ia_ge,jw_,low_all];have e:s.all (fun c=>!G.lv_ c)=(s.all (fun c=>!(decide (65<=c.toNat) && decide (c.toNat<=90))) && s.all (fun x=>!CS.data.toList.contains x)):=by
  rw[<-nn_]
  congr 1
  funext c
  unfold G.lv_;rw[jr_,Bool.not_or,Bool.and_comm]
 rw[e];generalize s.all (fun c=>!(decide (65<=c.toNat) && decide (c.toNat<=90)))=A;generalize s.all (fun x=>!CS.data.toList.contains x)=B;generalize decide (U.rep s=s)=D;generalize s.isEmpty=E
 cases E<;>cases A<;>cases B<;>cases D<;>rfl
theorem mE_(s:List UInt8):G.bE_ s=(!s.isEmpty && gC_ s && !decide (0<=Lib.indexAny s CS.data.toList) && decide (Lib.indexByte (s.drop 1) 61<0)):=by
 unfold G.bE_;rw[h4_];have e:(s.drop 1).all (fun c=>!(c==61))=decide (Lib.indexByte (s.drop 1) 61<0):=by
  have h:=ib_ge (s.drop 1) 61;have h2:decide (Lib.indexByte (s.drop 1) 61<0) = !decide (0<=Lib.indexByte (s.drop 1) 61):=by
   rw[<-decide_not];exact decide_eq_decide.2 (by omega)
  rw[h2,h,List.contains_eq_any_beq,jw_]
  congr 1
  funext c
  by_cases h:c=61
  ·subst h;rfl
  rw[bn_ h,bn_ (fun e=>h e.symm)]
 rw[e,Bool.and_comm]
theorem attrName_(s:List UInt8)(w:World)(hs:s.length<=100000)(hT:T.Tabs w) :
  Calls Tryz.prog 126 #[.string ⟨s.toArray⟩] w fun e w'=>e=.returned (.bool (G.bE_ s))/\Below w.heap.size w w':=by
 have hsz:(⟨s.toArray⟩:ByteArray).size=s.length:=H.aN_ s;have hdt:(⟨s.toArray⟩:ByteArray).data.toList=s:=by simp
 have QL:=o6_ ⟨s.toArray⟩ w (by omega) hT;have QC:=fun W=>fq_ ⟨s.toArray⟩ W (by omega);have QB:∀(x:ByteArray) W,Calls Tryz.prog 153 #[.string x,.int .u8 61] W fun e w'=>e=.returned (.int .i64 (Lib.indexByte x.data.toList 61))/\w'=W:=fun x W=>Tryz.strings_IndexByte x 61 W;rw[hdt]at QL QC;have HQ:=hi_ QL;have HC:=hi_ QC;have HB:=hi_ QB;have HV:=hi_ (mE_ s);generalize G.bE_ s=V at *;clear QL QC QB hT
 cases s with
 |nil=>
  have HF:Hd (V=false):=HV;clear HQ HC HV hsz hdt
  go_enter Tryz.func126,Tryz.ntmps126
  go_wp2_with fail
  go_ret
  exact⟨H.ap_ HF.o.symm,br_⟩
 |cons c t=>
  have hne:(⟨(c :: t).toArray⟩:ByteArray).toList.isEmpty=false:=by rw[Lib.toList_data];rfl
  have hex:((⟨(c :: t).toArray⟩:ByteArray).extract 1 (⟨(c :: t).toArray⟩:ByteArray).size).data.toList=t:=by
   rw[hsz,Lib.extract_data];simp
  have HV2:Hd (V=(gC_ (c :: t) && !decide (0<=Lib.indexAny (c :: t) CS.data.toList) && decide (Lib.indexByte t 61<0))):=hi_ (by rw[HV.o];rfl);have HEx:=hi_ hex;generalize gC_ (c :: t)=v1 at *;generalize Lib.indexAny (c :: t) CS.data.toList=z at *;clear HV hdt hex;generalize hS:(⟨(c :: t).toArray⟩:ByteArray)=S at *;have hl1:(1:Int)<=(S.size:Int):=by rw[hsz];simp;omega
  clear hS hsz
  go_enter Tryz.func126,Tryz.ntmps126
  go_wp2_with fail
  refine HQ.o.mono ?_;rintro e w1 ⟨rfl,b1⟩;have HB1:=hi_ b1;clear b1
  cases v1 with
  |false=>
   have HF:=hi_ (show V=false by rw[HV2.o];rfl);go_wp2_with fail
   go_ret
   exact⟨H.ap_ HF.o.symm,HB1.o⟩
  |true=>
   have HV3:=hi_ (show V=(!decide (0<=z) && decide (Lib.indexByte t 61<0)) by rw[HV2.o,Bool.true_and]);generalize hd:decide (0<=z)=d at *;clear hd;go_wp2_with fail
   refine(HC.o _).mono ?_;rintro e w2 ⟨rfl,b2⟩;have HB2:=bt_ HB1 b2;clear b2
   cases d with
   |true=>
    have HF:=hi_ (show V=false by rw[HV3.o];rfl);go_wp2_with fail
    go_ret
    exact⟨H.ap_ HF.o.symm,HB2.o⟩
   |false=>
    have HV4:=hi_ (show V=decide (Lib.indexByte t 61<0) by rw[HV3.o];rfl);go_wp2_with fail
    refine(HB.o _ _).mono ?_;rintro e w3 ⟨rfl,rfl⟩;rw[HEx.o];generalize Lib.indexByte t 61=y at *;go_wp2_with fail
    go_ret
    exact⟨H.ap_ HV4.o.symm,HB2.o⟩
def firstOk(s:List UInt8):Bool:=match s with | []=>false|c :: _=>decide (97<=c.toNat) && decide (c.toNat<=122)
theorem m1_(s:List UInt8):G.dc_ s=(firstOk s && (!s.isEmpty && gC_ s && !decide (0<=Lib.indexAny s CS.data.toList))):=by
 unfold G.dc_;rw[h4_]
 cases s<;>rfl
theorem long_(s:List UInt8)(w:World) :
  Calls Tryz.prog 108 #[.string ⟨s.toArray⟩] w fun e w'=>e=.returned (.bool (decide (1048576<s.length)))/\w=w':=by
 have hsz:(⟨s.toArray⟩:ByteArray).size=s.length:=H.aN_ s;have HD:Hd (decide (1048576<s.length)=decide ((1048576:Int)<(s.length:Int))):=hi_ (decide_eq_decide.2 (by omega));generalize (⟨s.toArray⟩:ByteArray)=S at *
 go_enter Tryz.func108,Tryz.ntmps108
 go_wp2_with fail
 go_ret
 refine⟨?_,rfl⟩;rw[HD.o]
 first|rfl|simp[gt_iff_lt]
theorem elementName_(s:List UInt8)(w:World)(hs:s.length<=100000)(hT:T.Tabs w) :
  Calls Tryz.prog 106 #[.string ⟨s.toArray⟩] w fun e w'=>e=.returned (.bool (G.dc_ s))/\Below w.heap.size w w':=by
 have hsz:(⟨s.toArray⟩:ByteArray).size=s.length:=H.aN_ s;have hdt:(⟨s.toArray⟩:ByteArray).data.toList=s:=by simp
 have QL:=o6_ ⟨s.toArray⟩ w (by omega) hT;have QC:=fun W=>fq_ ⟨s.toArray⟩ W (by omega);rw[hdt]at QL QC;have HQ:=hi_ QL;have HC:=hi_ QC;have HV:=hi_ (m1_ s);generalize G.dc_ s=V at *;clear QL QC hT
 cases s with
 |nil=>
  have HF:Hd (V=false):=HV;clear HQ HC HV hsz hdt
  go_enter Tryz.func106,Tryz.ntmps106
  go_wp2_with fail
  go_ret
  exact⟨H.ap_ HF.o.symm,br_⟩
 |cons c t=>
  have hne:(⟨(c :: t).toArray⟩:ByteArray).toList.isEmpty=false:=by rw[Lib.toList_data];rfl
  have HV2:Hd (V=(decide (97<=c.toNat) && decide (c.toNat<=122) && (gC_ (c :: t) && !decide (0<=Lib.indexAny (c :: t) CS.data.toList)))):=hi_ (by rw[HV.o];rfl);have hp:0<(⟨(c :: t).toArray⟩:ByteArray).size:=by rw[hsz];simp
  have hc0:(⟨(c :: t).toArray⟩:ByteArray)[0]'hp=c:=rfl;generalize gC_ (c :: t)=v1 at *;generalize Lib.indexAny (c :: t) CS.data.toList=z at *;clear HV hdt hsz;generalize hS:(⟨(c :: t).toArray⟩:ByteArray)=S at *;have hp1:(0:Int)<(S.size:Int):=by omega
  clear hS
  by_cases h1:97<=c.toNat
  ·have h1':(97:Int)<=(c.toNat:Int):=by omega
   by_cases h2:c.toNat<=122
   ·have h2':(c.toNat:Int)<=122:=by omega
    have HV3:Hd (V=(v1 && !decide (0<=z))):=hi_ (by rw[HV2.o,decide_eq_true h1,decide_eq_true h2];rfl);clear h1 h2 HV2
    go_enter Tryz.func106,Tryz.ntmps106
    go_wp2_with fail
    refine HQ.o.mono ?_;rintro e w1 ⟨rfl,b1⟩;have HB1:=hi_ b1;clear b1
    cases v1 with
    |false=>
     have HF:=hi_ (show V=false by rw[HV3.o];rfl);go_wp2_with fail
     go_ret
     exact⟨H.ap_ HF.o.symm,HB1.o⟩
    |true=>
     have HV4:=hi_ (show V = !decide (0<=z) by rw[HV3.o,Bool.true_and]);generalize hd:decide (0<=z)=d at *;clear hd;go_wp2_with fail
     refine(HC.o _).mono ?_;rintro e w2 ⟨rfl,b2⟩;have HB2:=bt_ HB1 b2;clear b2;go_wp2_with fail
     go_ret
     exact⟨H.ap_ HV4.o.symm,HB2.o⟩
   have h2':¬(c.toNat:Int)<=122:=by omega
   have HF:Hd (V=false):=hi_ (by rw[HV2.o,decide_eq_false h2,Bool.and_false,Bool.false_and]);clear h1 h2 HV2
   go_enter Tryz.func106,Tryz.ntmps106
   go_wp2_with fail
   go_ret
   exact⟨H.ap_ HF.o.symm,br_⟩
  have h1':¬(97:Int)<=(c.toNat:Int):=by omega
  have HF:Hd (V=false):=hi_ (by rw[HV2.o,decide_eq_false h1,Bool.false_and,Bool.false_and]);clear h1 HV2
  go_enter Tryz.func106,Tryz.ntmps106
  go_wp2_with fail
  go_ret
  exact⟨H.ap_ HF.o.symm,br_⟩
end N
end
end Go.Proofs.YtinphfpdfodkkaaGreatDoor
