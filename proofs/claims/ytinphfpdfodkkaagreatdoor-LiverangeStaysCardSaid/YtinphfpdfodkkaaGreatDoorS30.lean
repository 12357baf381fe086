/- Texts. -/
import Derived.Test.YtinphfpdfodkkaaGreatDoorS28
set_option linter.unusedVariables false
set_option linter.unusedSimpArgs false
set_option maxHeartbeats 8000000
set_option maxRecDepth 100000
namespace Go.Proofs.YtinphfpdfodkkaaGreatDoor
section
open Go.RowKit Go.Sort
namespace A
open H G R
def opV(o:G.Op):Value:=.agg #[.int .u8 o.kind,.int .u8 o.a,.int .u8 o.b,.int .u8 o.c,.string ⟨o.s.toArray⟩,.string ⟨o.t.toArray⟩,.int .i8 o.n,.int .i8 o.k]
def eB_(l l2:List Rec):Prop:=∃h nm o1 b1 o2 b2,l=[aM_ h nm o1 b1]/\l2=[aM_ h nm o2 b2]/\(o1≠o2\/o1=o2/\b1≠b2)
theorem eB_.ne{l l2:List Rec}(h:eB_ l l2):l≠l2:=by
 obtain⟨h,nm,o1,b1,o2,b2,rfl,rfl,hn⟩:=h;intro e;unfold aM_ at e;injection e with e1 e2
 injection e1 with _ _ _ _ _ _ _ e8 e9
 rcases hn with hn|hn
 ·exact hn e8
 exact hn.2 e9
structure Fit(w0:World)(X:Tw)(o:G.Op)(k:Nat):Prop where
 few:X.m.length<=2000
 ok1:dk_ (cR_ k) X.m
 ok2:dk_ (cR_ k) X.M.m
 k200:k<=200
 s40:o.s.length<=40
 t40:o.t.length<=40
 n8:-128<=o.n/\o.n<=127
 k8:-128<=o.k/\o.k<=127
 u8:o.kind<256/\o.a<256/\o.b<256/\o.c<256
 tabs:fz_ w0
 agree:((G.step (some 64) X.m o).1=(G.step none X.M.m o).1\/(G.step (some 64) X.m o).1.length≠(G.step none X.M.m o).1.length\/(G.step (some 64) X.m o).2.1≠(G.step none X.M.m o).2.1)\/((o.kind % 10=5\/o.kind % 10=6)/\eB_ (G.step (some 64) X.m o).1 (G.step none X.M.m o).1)
 keep:Sim (G.step (some 64) X.m o).2.2 (G.step none X.M.m o).2.2
def jB_(w0 w:World)(X:Tw)(o:G.Op)(e:Ending)(w':World):Prop:=
 ∃v b X',e=.returned (.tuple #[v,.bool b])/\bu_ w0 w' X'/\X'.key=X.key/\X'.T.bs=X.T.bs/\X'.T.st=X.T.st/\(∀i,i<X.m.length->X'.pos i=X.pos i)/\X'.m=(G.step (some 64) X.m o).2.2/\X'.M.m=(G.step none X.M.m o).2.2/\aD_ X'.T X'.pos w.heap.size w' v (G.step (some 64) X.m o).1 ∧
  ((G.step (some 64) X.m o).1=(G.step none X.M.m o).1->(G.step (some 64) X.m o).2.1=(G.step none X.M.m o).2.1->b=true)
theorem bu_.pos_len{w0 w:World}{X:Tw}(h:bu_ w0 w X):0<X.m.length:=h.tree.fits.wf.doc.1
theorem cm_{T:am_}{m:aa_}{pos:Nat->Nat}(F:Fits T m pos)(o:Nat):T.ptr o (-1)=none:=nT_ F (fun i hi e=>by have:=aP_ (T:=T) (pos:=pos) i;omega) o
theorem da_{X:Tw}{i:Nat}(h:has X.m i=true):hv1 X.T X.pos X.m i=hd X.T X.pos i:=by unfold hv1;rw[if_pos h]
theorem bX_{X:Tw}{i:Nat}(h:has X.m i=false):hv1 X.T X.pos X.m i=-1:=by unfold hv1;rw[if_neg (by rw[h];simp)]
theorem bf_{w:World}{g:Nat}{t:TypeId}{a0 a1 a2 a3 a4 a5 a6 a7:Value}(h:Blk g #[a0,a1,a2,a3,a4,a5,a6,a7] t w) :
  w.cell? ⟨g,0,none⟩=some a0/\w.cell? ⟨g,1,none⟩=some a1/\w.cell? ⟨g,2,none⟩=some a2/\w.cell? ⟨g,3,none⟩=some a3/\w.cell? ⟨g,4,none⟩=some a4/\w.cell? ⟨g,5,none⟩=some a5/\w.cell? ⟨g,6,none⟩=some a6/\w.cell? ⟨g,7,none⟩=some a7:=by
 have hc:=(ae_ h).1;exact⟨hc 0,hc 1,hc 2,hc 3,hc 4,hc 5,hc 6,hc 7⟩
theorem cv_(o:G.Op){n:Nat}(hn:0<n)(hn2:n<=2000)(hu:o.kind<256/\o.a<256/\o.b<256/\o.c<256)(m:aa_)(hm:m.length=n) :
  Int.tmod (o.a:Int) (n:Int)=((o.at_ m:Nat):Int)/\Int.tmod (o.b:Int) (n:Int)=((o.bt m:Nat):Int)/\Int.tmod (o.c:Int) ((n:Int)+1)-1=ch_ (o.ct m)/\o.at_ m<n/\o.bt m<n/\(∀i,o.ct m=some i->i<n)/\0<=Int.tmod (o.c:Int) ((n:Int)+1)/\Int.tmod (o.c:Int) ((n:Int)+1)<=n:=by
 subst hm;have e1:Int.tmod (o.c:Int) ((m.length:Int)+1)=((o.c % (m.length+1):Nat):Int):=by
  rw[show((m.length:Int)+1)=((m.length+1:Nat):Int) by push_cast;rfl];exact(Int.ofNat_tmod _ _).symm
 have hlt:o.c % (m.length+1)<m.length+1:=Nat.mod_lt _ (by omega);refine⟨(Int.ofNat_tmod _ _).symm,(Int.ofNat_tmod _ _).symm,?_,Nat.mod_lt _ hn,Nat.mod_lt _ hn,?_,?_,?_⟩
 ·rw[e1]
  unfold Op.ct
  split
  ·rename_i h;rw[h];rfl
  rename_i h
  show _=(((o.c % (m.length+1)-1:Nat)):Int);omega
 ·intro i hi
  unfold Op.ct at hi
  split at hi
  ·cases hi
  injection hi with hi;omega
 ·rw[e1];omega
 rw[e1];omega
theorem Mid.get{w0 w:World}{X:Tw}(h:Mid w0 w X){g cap:Nat}(hv:X.hv=.slice (some ⟨g,0,none⟩) X.m.length cap){i:Nat}(hi:i<X.m.length):w.cell? ⟨g,i,none⟩=some (.int .i64 (hv1 X.T X.pos X.m i))/\w.frozen? ⟨g,i,none⟩=false/\g<w.heap.size:=by
 have hr:=h.row;rw[hv]at hr;have h1:=(ad_ hr).2.2.2 i (by rw[eO_,jk_];exact hi);refine⟨?_,h1.2,(ad_ hr).1⟩;rw[h1.1];unfold bB_ hvs;rw[List.getElem?_map,List.getElem?_map,List.getElem?_range hi];rfl
theorem kC_{n:Nat}{o:G.Op}{m:aa_}(hm:m.length=n)(hn2:n<=2000):wrap64 ((o.c:Int) % ((n:Int)+1)-1)=ch_ (o.ct m):=by
 subst hm;have e1:(o.c:Int) % ((m.length:Int)+1)=((o.c % (m.length+1):Nat):Int):=by
  rw[show((m.length:Int)+1)=((m.length+1:Nat):Int) by push_cast;rfl];exact(Int.natCast_emod _ _).symm
 have hlt:o.c % (m.length+1)<m.length+1:=Nat.mod_lt _ (by omega);rw[e1];have e2:wrap64 (((o.c % (m.length+1):Nat):Int)-1)=((o.c % (m.length+1):Nat):Int)-1:=by unfold wrap64;omega
 rw[e2];unfold Op.ct
 split
 ·rename_i h;rw[h];rfl
 rename_i h
 show _=(((o.c % (m.length+1)-1:Nat)):Int);omega
def dj_(m m':aa_):Prop:=m'.length=m.length/\∀i,(nd m' i).gone=(nd m i).gone
theorem dj_.refl(m:aa_):dj_ m m:=⟨rfl,fun _=>rfl⟩
theorem dj_.upd{m m':aa_}(h:dj_ m m')(i:Nat){f:G.Node->G.Node}(hf:∀x,(f x).gone=x.gone):dj_ m (upd m' i f):=by
 refine⟨by rw[cV_];exact h.1,fun j=>?_⟩;rw[<-h.2 j]
 rcases Nat.lt_or_ge i m'.length with hi|hi
 ·rw[cn_ hi]
  split
  ·exact hf _
  rfl
 rw[em_ hi]
theorem dj_.cut{m m':aa_}(h:dj_ m m')(a p:Nat):dj_ m (cut m' a p):=by
 unfold G.cut;refine dj_.upd (dj_.upd h p ?_) a ?_<;>exact fun x=>rfl
theorem dj_.put{m m':aa_}(h:dj_ m m')(p a i:Nat):dj_ m (put m' p a i):=by
 unfold G.put;refine dj_.upd (dj_.upd h p ?_) a ?_<;>exact fun x=>rfl
theorem cG_{lim:Option Nat}{m:aa_}{o:G.Op}(hk:3<=o.kind % 10/\o.kind % 10<8):dj_ m (G.step lim m o).2.2:=by
 have h0:=dj_.refl m;unfold G.step;rw[if_neg (by omega)]
 split
 ·split
  ·unfold G.insert
   split
   ·exact h0
   split
   ·exact h0
   unfold G.out
   split
   ·exact h0.put _ _ _
   exact(h0.cut _ _).put _ _ _
  exact h0
 split
 ·exact h0
 split
 ·unfold bd_
  split
  ·exact h0
  split
  ·exact h0
  exact h0.cut _ _
 split
 ·unfold az_
  split
  ·exact h0
  split
  ·exact h0
  split
  ·exact h0.upd _ (fun x=>rfl)
  split
  ·exact h0
  exact h0.upd _ (fun x=>rfl)
 split
 ·unfold ax_
  split
  ·exact h0
  split
  ·exact h0
  exact h0.upd _ (fun x=>rfl)
 split
 ·unfold replace
  split
  ·exact h0
  split
  ·exact h0
  exact h0.upd _ (fun x=>rfl)
 omega
theorem dj_.has{m m':aa_}(h:dj_ m m')(i:Nat):has m' i=has m i:=by unfold G.has;rw[h.2]
theorem hq_{w:World}{M:aJ_}{B size n k:Nat}{t:TypeId}{v:Value}{xs:List Value}(h:w.ownsRow B t size v n xs)(hM:ac_ w M)(h1:t≠102)(h2:t≠105)(h3:t≠3)(h4:t≠143)(hk:v.ownBlock=some k):¬M.foot k:=by
 rintro(e|e|⟨x,hx,e|e⟩)
 ·rw[e]at hk;exact ai_ h hM.blk h1 hk
 ·exact aQ_ h hM.row h2 hk (by rw[e];rfl)
 ·exact aQ_ h (hM.kids x hx) h3 hk e
 exact aQ_ h (hM.attrs x hx) h4 hk e
theorem fd_{w0 w w3 w4 w5 w6:World}{X:Tw}{o:G.Op}{k:Nat}{T4:am_}{M6:aJ_}{v4:Value}(hF:Fit w0 X o k)(h3:bu_ w0 w3 X)(hb3:w.heap.size<=w3.heap.size)(hf4:H.Frame (fun k=>k=X.T.g) w3 w4)(hl4:bb_ X.T T4)
  (ht4:ag_ w4 T4 (G.step (some 64) X.m o).2.2 X.pos) (hr4:aD_ X.T X.pos w3.heap.size w4 v4 (G.step (some 64) X.m o).1) (hd5:Below w4.heap.size w4 w5) (hf6:H.Frame X.M.foot w5 w6) (hm6:ac_ w6 M6) (hme:M6.m=(G.step none X.M.m o).2.2) (hl6:aO_ w5 X.M M6) (hk:3<=o.kind % 10/\o.kind % 10<8) :
  bu_ w0 w6 { X with T:=T4,m:=(G.step (some 64) X.m o).2.2,pos:=X.pos,M:=M6 }/\aD_ T4 X.pos w.heap.size w6 v4 (G.step (some 64) X.m o).1:=by
 have hkp:=cG_ (lim:=some 64) (m:=X.m) hk;have hfT:H.Frame X.T.foot w3 w5:=(hf4.wide (fun k hk=>Or.inr (Or.inl hk))).below_ hd5;have hM5:=h3.mid hfT;refine⟨h3.next hfT (Goes.of_like hl4) (ht4.below hd5) hf6 hm6 hl6 (by rw[hme];exact hF.keep) hkp.1 (fun i=>hkp.has i) (fun i _=>rfl) (by rw[hl4.len,hkp.1];exact h3.slots),?_⟩;have h1:aD_ X.T X.pos w3.heap.size w5 v4 (G.step (some 64) X.m o).1:=own_below hr4 hd5;have h2:aD_ X.T X.pos w3.heap.size w6 v4 (G.step (some 64) X.m o).1:=ak_ h1 hf6 (fun g hg=>hq_ h1 hM5.model (by decide) (by decide) (by decide) (by decide) hg);have h3':=ca_ h2 hb3;have e:av_ T4 X.pos=av_ X.T X.pos:=funext fun r=>fR_ hl4.bs hl4.st r;unfold aD_;rw[e];exact h3'
theorem fc_{w0 w w6 w7:World}{X:Tw}{o:G.Op}{T4:am_}{M6:aJ_}{v4:Value}{b:Bool}(h:bu_ w0 w6 { X with T:=T4,m:=(G.step (some 64) X.m o).2.2,pos:=X.pos,M:=M6 }/\aD_ T4 X.pos w.heap.size w6 v4 (G.step (some 64) X.m o).1)(hl4:bb_ X.T T4)(hme:M6.m=(G.step none X.M.m o).2.2)
  (hb:Below w6.heap.size w6 w7) (hbb:(G.step (some 64) X.m o).1=(G.step none X.M.m o).1->(G.step (some 64) X.m o).2.1=(G.step none X.M.m o).2.1->b=true):jB_ w0 w X o (.returned (.tuple #[v4,.bool b])) w7:=
 ⟨v4,b,{ X with T:=T4,m:=(G.step (some 64) X.m o).2.2,pos:=X.pos,M:=M6 },rfl,h.1.below hb,rfl,hl4.bs,hl4.st,(fun _ _=>rfl),rfl,hme,own_below h.2 hb,hbb⟩
def cu_(m:aa_)(r:Rec):Prop:=has m r.target=true/\(∀i,r.node=some i->has m i=true)/\(∀i,r.prev=some i->has m i=true)/\(∀i,r.next=some i->has m i=true)
theorem f7_{m:aa_}(W:WF m){p i:Nat}(hp:has m p=true)(hi:i∈(nd m p).kids):has m i=true:=by
 have h1:=W.gone i p (W.kid p i hi).2;unfold G.has at hp ⊢;rw[h1];exact hp
theorem hu_{l:List Nat}{i x:Nat}(h:G.dq_ l i=some x):x∈l:=by
 unfold G.dq_ at h
 split at h
 ·cases h
 exact List.mem_of_getElem? h
theorem i8_{m:aa_}(W:WF m){h q:Nat}(hh:has m h=true)(hq:(nd m h).parent=some q):has m q=true:=by
 have h1:=W.gone h q hq;unfold G.has at hh ⊢;rw[<-h1];exact hh
theorem fe_{m:aa_}(W:WF m){h q:Nat}(hh:has m h=true)(hq:(nd m h).parent=some q):cu_ m (bm_ m h q):=
 ⟨i8_ W hh hq,fun i e=>by injection e with e;rw[<-e];exact hh,fun i e=>f7_ W (i8_ W hh hq) (hu_ e),fun i e=>f7_ W (i8_ W hh hq) (List.mem_of_getElem? e)⟩
theorem oV_{lim:Option Nat}{m:aa_}{o:G.Op}(hk:o.kind % 10=4):G.step lim m o=if has m (o.at_ m)=false then([],6,m)else bd_ m (o.at_ m):=by
 unfold G.step;rw[if_neg (by omega),if_neg (by omega)]
 split
 ·rfl
 first|rfl|rw[if_pos hk]
theorem ds_(o:G.Op):Hd (opV o=.agg #[.int .u8 o.kind,.int .u8 o.a,.int .u8 o.b,.int .u8 o.c,.string ⟨o.s.toArray⟩,.string ⟨o.t.toArray⟩,.int .i8 o.n,.int .i8 o.k]):=hi_ rfl
theorem dr_(w:World)(o:G.Op):Below w.heap.size w (w.alloc (.cells #[.int .u8 o.kind,.int .u8 o.a,.int .u8 o.b,.int .u8 o.c,.string ⟨o.s.toArray⟩,.string ⟨o.t.toArray⟩,.int .i8 o.n,.int .i8 o.k] 65))/\Hd (Blk w.heap.size #[.int .u8 o.kind,.int .u8 o.a,.int .u8 o.b,.int .u8 o.c,.string ⟨o.s.toArray⟩,.string ⟨o.t.toArray⟩,.int .i8 o.n,.int .i8 o.k] 65 (w.alloc (.cells #[.int .u8 o.kind,.int .u8 o.a,.int .u8 o.b,.int .u8 o.c,.string ⟨o.s.toArray⟩,.string ⟨o.t.toArray⟩,.int .i8 o.n,.int .i8 o.k] 65)))/\Hd (∀nq,w.heap.size<((w.alloc (.cells #[.int .u8 o.kind,.int .u8 o.a,.int .u8 o.b,.int .u8 o.c,.string ⟨o.s.toArray⟩,.string ⟨o.t.toArray⟩,.int .i8 o.n,.int .i8 o.k] 65)).drewN nq).heap.size):=⟨(Below.refl w.heap.size w).alloc (nl_) _,hi_ (Blk.new w _ _),hi_ (fun nq=>by show _<(w.alloc _).heap.size;simp)⟩
theorem bZ_{w0:World}{X:Tw}{o:G.Op}{k:Nat}(hF:Fit w0 X o k)(hl:0<X.m.length):(o.a<256/\o.b<256/\o.c<256/\X.m.length<=2000)/\(IntKind.i64.wrap (o.a:Int)=(o.a:Int)/\IntKind.i64.wrap (o.b:Int)=(o.b:Int)/\IntKind.i64.wrap (o.c:Int)=(o.c:Int))/\IntKind.i64.wrap ((X.m.length:Int)+1)=(X.m.length:Int)+1/\IntKind.i64.wrap (Int.tmod (o.c:Int) ((X.m.length:Int)+1)-1)=Int.tmod (o.c:Int) ((X.m.length:Int)+1)-1/\(¬(X.m.length:Int)=0)/\((X.m.length:Int)==0)=false/\(¬(X.m.length:Int)+1=0)/\((X.m.length:Int)+1==0)=false:=by
 obtain⟨_,h1,h2,h3⟩:=hF.u8;have h4:=hF.few;have h5:¬(X.m.length:Int)=0:=by omega
 have h6:¬(X.m.length:Int)+1=0:=by omega
 have h7:Int.tmod (o.c:Int) ((X.m.length:Int)+1)=((o.c % (X.m.length+1):Nat):Int):=(Int.ofNat_tmod _ _).symm;have h8:=Nat.mod_le o.c (X.m.length+1);refine⟨⟨h1,h2,h3,h4⟩,⟨IntWalk.i64_in _ (by omega),IntWalk.i64_in _ (by omega),IntWalk.i64_in _ (by omega)⟩,IntWalk.i64_in _ (by omega),?_,h5,bn_ h5,h6,bn_ h6⟩;rw[h7];exact IntWalk.i64_in _ (by omega)
end A
end
end Go.Proofs.YtinphfpdfodkkaaGreatDoor
