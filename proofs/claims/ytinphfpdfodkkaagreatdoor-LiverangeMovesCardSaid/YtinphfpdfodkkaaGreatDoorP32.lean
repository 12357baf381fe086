/- Texts. -/
import Derived.Test.YtinphfpdfodkkaaGreatDoorP30
set_option linter.unusedVariables false
set_option linter.unusedSimpArgs false
set_option maxHeartbeats 8000000
set_option maxRecDepth 100000
namespace Go.Proofs.YtinphfpdfodkkaaGreatDoor
section
open Go.RowKit Go.Sort
namespace A
open H G R
def opV(o:G.Op):Value:=.agg #[.int .u8 o.kind,.int .u8 o.a,.int .u8 o.b,.int .u8 o.c,.string ⟨o.s.toArray⟩,.string ⟨o.t.toArray⟩,.int .i8 o.n,.int .i8 o.k]
structure Fit(w0:World)(X:Tw)(o:G.Op)(k:Nat):Prop where
 few:X.m.length<=2000
 ok1:du_ (cT_ k) X.m
 ok2:du_ (cT_ k) X.M.m
 k200:k<=200
 s40:o.s.length<=40
 t40:o.t.length<=40
 n8:-128<=o.n/\o.n<=127
 k8:-128<=o.k/\o.k<=127
 u8:o.kind<256/\o.a<256/\o.b<256/\o.c<256
 tabs:fi_ w0
 agree:(G.step (some 64) X.m o).1=(G.step none X.M.m o).1\/(G.step (some 64) X.m o).1.length≠(G.step none X.M.m o).1.length\/(G.step (some 64) X.m o).2.1≠(G.step none X.M.m o).2.1
 keep:Sim (G.step (some 64) X.m o).2.2 (G.step none X.M.m o).2.2
def i2_(w0 w:World)(X:Tw)(o:G.Op)(e:Ending)(w':World):Prop:=
 ∃v b X',e=.returned (.tuple #[v,.bool b])/\be_ w0 w' X'/\X'.key=X.key/\X'.T.bs=X.T.bs/\X'.T.st=X.T.st/\(∀i,i<X.m.length->X'.pos i=X.pos i)/\X'.m=(G.step (some 64) X.m o).2.2/\X'.M.m=(G.step none X.M.m o).2.2/\ax_ X'.T X'.pos w.heap.size w' v (G.step (some 64) X.m o).1 ∧
  ((G.step (some 64) X.m o).1=(G.step none X.M.m o).1->(G.step (some 64) X.m o).2.1=(G.step none X.M.m o).2.1->b=true)
theorem be_.pos_len{w0 w:World}{X:Tw}(h:be_ w0 w X):0<X.m.length:=h.tree.fits.wf.doc.1
theorem cG_{T:am_}{m:aa_}{pos:Nat->Nat}(F:Fits T m pos)(o:Nat):T.ptr o (-1)=none:=mO_ F (fun i hi e=>by have:=aP_ (T:=T) (pos:=pos) i;omega) o
theorem cE_{X:Tw}{i:Nat}(h:has X.m i=true):hv1 X.T X.pos X.m i=hd X.T X.pos i:=by unfold hv1;rw[if_pos h]
theorem cj_{X:Tw}{i:Nat}(h:has X.m i=false):hv1 X.T X.pos X.m i=-1:=by unfold hv1;rw[if_neg (by rw[h];simp)]
theorem a8_{w:World}{g:Nat}{t:TypeId}{a0 a1 a2 a3 a4 a5 a6 a7:Value}(h:Blk g #[a0,a1,a2,a3,a4,a5,a6,a7] t w) :
  w.cell? ⟨g,0,none⟩=some a0/\w.cell? ⟨g,1,none⟩=some a1/\w.cell? ⟨g,2,none⟩=some a2/\w.cell? ⟨g,3,none⟩=some a3/\w.cell? ⟨g,4,none⟩=some a4/\w.cell? ⟨g,5,none⟩=some a5/\w.cell? ⟨g,6,none⟩=some a6/\w.cell? ⟨g,7,none⟩=some a7:=by
 have hc:=(ad_ h).1;exact⟨hc 0,hc 1,hc 2,hc 3,hc 4,hc 5,hc 6,hc 7⟩
theorem cn_(o:G.Op){n:Nat}(hn:0<n)(hn2:n<=2000)(hu:o.kind<256/\o.a<256/\o.b<256/\o.c<256)(m:aa_)(hm:m.length=n) :
  Int.tmod (o.a:Int) (n:Int)=((o.at_ m:Nat):Int)/\Int.tmod (o.b:Int) (n:Int)=((o.bt m:Nat):Int)/\Int.tmod (o.c:Int) ((n:Int)+1)-1=cm_ (o.ct m)/\o.at_ m<n/\o.bt m<n/\(∀i,o.ct m=some i->i<n)/\0<=Int.tmod (o.c:Int) ((n:Int)+1)/\Int.tmod (o.c:Int) ((n:Int)+1)<=n:=by
 subst hm;have e1:Int.tmod (o.c:Int) ((m.length:Int)+1)=((o.c % (m.length+1):Nat):Int):=by
  rw[show((m.length:Int)+1)=((m.length+1:Nat):Int) by push_cast;rfl];exact(Int.ofNat_tmod _ _).symm
 have hlt:o.c % (m.length+1)<m.length+1:=Nat.mod_lt _ (by omega);refine⟨(Int.ofNat_tmod _ _).symm,(Int.ofNat_tmod _ _).symm,?_,Nat.mod_lt _ hn,Nat.mod_lt _ hn,?_,?_,?_⟩
 ·rw[e1]
  unfold Op.ct
  split
  ·rename_i h;rw[h];rfl
  ·rename_i h
   show _=(((o.c % (m.length+1)-1:Nat)):Int);omega
 ·intro i hi
  unfold Op.ct at hi
  split at hi
  ·cases hi
  ·injection hi with hi;omega
 ·rw[e1];omega
 ·rw[e1];omega
theorem Mid.get{w0 w:World}{X:Tw}(h:Mid w0 w X){g cap:Nat}(hv:X.hv=.slice (some ⟨g,0,none⟩) X.m.length cap){i:Nat}(hi:i<X.m.length):w.cell? ⟨g,i,none⟩=some (.int .i64 (hv1 X.T X.pos X.m i))/\w.frozen? ⟨g,i,none⟩=false/\g<w.heap.size:=by
 have hr:=h.row;rw[hv]at hr;have h1:=(ae_ hr).2.2.2 i (by rw[eB_,fT_];exact hi);refine⟨?_,h1.2,(ae_ hr).1⟩;rw[h1.1];unfold bw_ hvs;rw[List.getElem?_map,List.getElem?_map,List.getElem?_range hi];rfl
theorem jY_{n:Nat}{o:G.Op}{m:aa_}(hm:m.length=n)(hn2:n<=2000):wrap64 ((o.c:Int) % ((n:Int)+1)-1)=cm_ (o.ct m):=by
 subst hm;have e1:(o.c:Int) % ((m.length:Int)+1)=((o.c % (m.length+1):Nat):Int):=by
  rw[show((m.length:Int)+1)=((m.length+1:Nat):Int) by push_cast;rfl];exact(Int.natCast_emod _ _).symm
 have hlt:o.c % (m.length+1)<m.length+1:=Nat.mod_lt _ (by omega);rw[e1];have e2:wrap64 (((o.c % (m.length+1):Nat):Int)-1)=((o.c % (m.length+1):Nat):Int)-1:=by unfold wrap64;omega
 rw[e2];unfold Op.ct
 split
 ·rename_i h;rw[h];rfl
 ·rename_i h
  show _=(((o.c % (m.length+1)-1:Nat)):Int);omega
def cV_(m m':aa_):Prop:=m'.length=m.length/\∀i,(nd m' i).gone=(nd m i).gone
theorem cV_.refl(m:aa_):cV_ m m:=⟨rfl,fun _=>rfl⟩
theorem cV_.upd{m m':aa_}(h:cV_ m m')(i:Nat){f:G.Node->G.Node}(hf:∀x,(f x).gone=x.gone):cV_ m (upd m' i f):=by
 refine⟨by rw[cM_];exact h.1,fun j=>?_⟩;rw[<-h.2 j]
 rcases Nat.lt_or_ge i m'.length with hi|hi
 ·rw[cC_ hi]
  split
  ·exact hf _
  ·rfl
 ·rw[gT_ hi]
theorem cV_.cut{m m':aa_}(h:cV_ m m')(a p:Nat):cV_ m (cut m' a p):=by
 unfold G.cut;refine cV_.upd (cV_.upd h p ?_) a ?_<;>exact fun x=>rfl
theorem cV_.put{m m':aa_}(h:cV_ m m')(p a i:Nat):cV_ m (put m' p a i):=by
 unfold G.put;refine cV_.upd (cV_.upd h p ?_) a ?_<;>exact fun x=>rfl
theorem cv_{lim:Option Nat}{m:aa_}{o:G.Op}(hk:3<=o.kind % 10/\o.kind % 10<8):cV_ m (G.step lim m o).2.2:=by
 have h0:=cV_.refl m;unfold G.step;rw[if_neg (by omega)]
 split
 ·split
  ·unfold G.insert
   split
   ·exact h0
   ·split
    ·exact h0
    ·unfold G.out
     split
     ·exact h0.put _ _ _
     ·exact(h0.cut _ _).put _ _ _
  ·exact h0
 ·split
  ·exact h0
  ·split
   ·unfold by_
    split
    ·exact h0
    ·split
     ·exact h0
     ·exact h0.cut _ _
   ·split
    ·unfold aD_
     split
     ·exact h0
     ·split
      ·exact h0
      ·split
       ·exact h0.upd _ (fun x=>rfl)
       ·split
        ·exact h0
        ·exact h0.upd _ (fun x=>rfl)
    ·split
     ·unfold aG_
      split
      ·exact h0
      ·split
       ·exact h0
       ·exact h0.upd _ (fun x=>rfl)
     ·split
      ·unfold replace
       split
       ·exact h0
       ·split
        ·exact h0
        ·exact h0.upd _ (fun x=>rfl)
      ·omega
theorem cV_.has{m m':aa_}(h:cV_ m m')(i:Nat):has m' i=has m i:=by unfold G.has;rw[h.2]
theorem g0_{w:World}{M:aF_}{B size n k:Nat}{t:TypeId}{v:Value}{xs:List Value}(h:w.ownsRow B t size v n xs)(hM:ab_ w M)(h1:t≠102)(h2:t≠105)(h3:t≠3)(h4:t≠143)(hk:v.ownBlock=some k):¬M.foot k:=by
 rintro(e|e|⟨x,hx,e|e⟩)
 ·rw[e]at hk;exact ak_ h hM.blk h1 hk
 ·exact aU_ h hM.row h2 hk (by rw[e];rfl)
 ·exact aU_ h (hM.kids x hx) h3 hk e
 ·exact aU_ h (hM.attrs x hx) h4 hk e
theorem e0_{w0 w w3 w4 w5 w6:World}{X:Tw}{o:G.Op}{k:Nat}{T4:am_}{M6:aF_}{v4:Value}(hF:Fit w0 X o k)(h3:be_ w0 w3 X)(hb3:w.heap.size<=w3.heap.size)(hf4:H.Frame (fun k=>k=X.T.g) w3 w4)(hl4:a9_ X.T T4)
  (ht4:aj_ w4 T4 (G.step (some 64) X.m o).2.2 X.pos) (hr4:ax_ X.T X.pos w3.heap.size w4 v4 (G.step (some 64) X.m o).1) (hd5:Below w4.heap.size w4 w5) (hf6:H.Frame X.M.foot w5 w6) (hm6:ab_ w6 M6) (hme:M6.m=(G.step none X.M.m o).2.2) (hl6:aO_ w5 X.M M6) (hk:3<=o.kind % 10/\o.kind % 10<8) :
  be_ w0 w6 { X with T:=T4,m:=(G.step (some 64) X.m o).2.2,pos:=X.pos,M:=M6 }/\ax_ T4 X.pos w.heap.size w6 v4 (G.step (some 64) X.m o).1:=by
 have hkp:=cv_ (lim:=some 64) (m:=X.m) hk;have hfT:H.Frame X.T.foot w3 w5:=(hf4.wide (fun k hk=>Or.inr (Or.inl hk))).below_ hd5;have hM5:=h3.mid hfT;refine⟨h3.next hfT (Goes.of_like hl4) (ht4.below hd5) hf6 hm6 hl6 (by rw[hme];exact hF.keep) hkp.1 (fun i=>hkp.has i) (fun i _=>rfl) (by rw[hl4.len,hkp.1];exact h3.slots),?_⟩;have h1:ax_ X.T X.pos w3.heap.size w5 v4 (G.step (some 64) X.m o).1:=own_below hr4 hd5;have h2:ax_ X.T X.pos w3.heap.size w6 v4 (G.step (some 64) X.m o).1:=ah_ h1 hf6 (fun g hg=>g0_ h1 hM5.model (by decide) (by decide) (by decide) (by decide) hg);have h3':=b8_ h2 hb3;have e:aB_ T4 X.pos=aB_ X.T X.pos:=funext fun r=>fC_ hl4.bs hl4.st r;unfold ax_;rw[e];exact h3'
theorem eZ_{w0 w w6 w7:World}{X:Tw}{o:G.Op}{T4:am_}{M6:aF_}{v4:Value}{b:Bool}(h:be_ w0 w6 { X with T:=T4,m:=(G.step (some 64) X.m o).2.2,pos:=X.pos,M:=M6 }/\ax_ T4 X.pos w.heap.size w6 v4 (G.step (some 64) X.m o).1)(hl4:a9_ X.T T4)(hme:M6.m=(G.step none X.M.m o).2.2)
  (hb:Below w6.heap.size w6 w7) (hbb:(G.step (some 64) X.m o).1=(G.step none X.M.m o).1->(G.step (some 64) X.m o).2.1=(G.step none X.M.m o).2.1->b=true):i2_ w0 w X o (.returned (.tuple #[v4,.bool b])) w7:=
 ⟨v4,b,{ X with T:=T4,m:=(G.step (some 64) X.m o).2.2,pos:=X.pos,M:=M6 },rfl,h.1.below hb,rfl,hl4.bs,hl4.st,(fun _ _=>rfl),rfl,hme,own_below h.2 hb,hbb⟩
def c7_(m:aa_)(r:Rec):Prop:=has m r.target=true/\(∀i,r.node=some i->has m i=true)/\(∀i,r.prev=some i->has m i=true)/\(∀i,r.next=some i->has m i=true)
theorem g6_{m:aa_}(W:WF m){p i:Nat}(hp:has m p=true)(hi:i∈(nd m p).kids):has m i=true:=by
 have h1:=W.gone i p (W.kid p i hi).2;unfold G.has at hp ⊢;rw[h1];exact hp
theorem jh_{l:List Nat}{i x:Nat}(h:G.dF_ l i=some x):x∈l:=by
 unfold G.dF_ at h
 split at h
 ·cases h
 ·exact List.mem_of_getElem? h
theorem ix_{m:aa_}(W:WF m){h q:Nat}(hh:has m h=true)(hq:(nd m h).parent=some q):has m q=true:=by
 have h1:=W.gone h q hq;unfold G.has at hh ⊢;rw[<-h1];exact hh
theorem gM_{m:aa_}(W:WF m){h q:Nat}(hh:has m h=true)(hq:(nd m h).parent=some q):c7_ m (bU_ m h q):=
 ⟨ix_ W hh hq,fun i e=>by injection e with e;rw[<-e];exact hh,fun i e=>g6_ W (ix_ W hh hq) (jh_ e),fun i e=>g6_ W (ix_ W hh hq) (List.mem_of_getElem? e)⟩
theorem nQ_{lim:Option Nat}{m:aa_}{o:G.Op}(hk:o.kind % 10=4):G.step lim m o=if has m (o.at_ m)=false then([],6,m)else by_ m (o.at_ m):=by
 unfold G.step;rw[if_neg (by omega),if_neg (by omega)]
 split
 ·rfl
 ·first|rfl|rw[if_pos hk]
theorem di_(o:G.Op):Hid (opV o=.agg #[.int .u8 o.kind,.int .u8 o.a,.int .u8 o.b,.int .u8 o.c,.string ⟨o.s.toArray⟩,.string ⟨o.t.toArray⟩,.int .i8 o.n,.int .i8 o.k]):=hi_ rfl
theorem dh_(w:World)(o:G.Op):Below w.heap.size w (w.alloc (.cells #[.int .u8 o.kind,.int .u8 o.a,.int .u8 o.b,.int .u8 o.c,.string ⟨o.s.toArray⟩,.string ⟨o.t.toArray⟩,.int .i8 o.n,.int .i8 o.k] 65))/\Hid (Blk w.heap.size #[.int .u8 o.kind,.int .u8 o.a,.int .u8 o.b,.int .u8 o.c,.string ⟨o.s.toArray⟩,.string ⟨o.t.toArray⟩,.int .i8 o.n,.int .i8 o.k] 65 (w.alloc (.cells #[.int .u8 o.kind,.int .u8 o.a,.int .u8 o.b,.int .u8 o.c,.string ⟨o.s.toArray⟩,.string ⟨o.t.toArray⟩,.int .i8 o.n,.int .i8 o.k] 65)))/\Hid (∀nq,w.heap.size<((w.alloc (.cells #[.int .u8 o.kind,.int .u8 o.a,.int .u8 o.b,.int .u8 o.c,.string ⟨o.s.toArray⟩,.string ⟨o.t.toArray⟩,.int .i8 o.n,.int .i8 o.k] 65)).drewN nq).heap.size):=⟨(Below.refl w.heap.size w).alloc (nl_) _,hi_ (Blk.new w _ _),hi_ (fun nq=>by show _<(w.alloc _).heap.size;simp)⟩
theorem bW_{w0:World}{X:Tw}{o:G.Op}{k:Nat}(hF:Fit w0 X o k)(hl:0<X.m.length):(o.a<256/\o.b<256/\o.c<256/\X.m.length<=2000)/\(IntKind.i64.wrap (o.a:Int)=(o.a:Int)/\IntKind.i64.wrap (o.b:Int)=(o.b:Int)/\IntKind.i64.wrap (o.c:Int)=(o.c:Int))/\IntKind.i64.wrap ((X.m.length:Int)+1)=(X.m.length:Int)+1/\IntKind.i64.wrap (Int.tmod (o.c:Int) ((X.m.length:Int)+1)-1)=Int.tmod (o.c:Int) ((X.m.length:Int)+1)-1/\(¬(X.m.length:Int)=0)/\((X.m.length:Int)==0)=false/\(¬(X.m.length:Int)+1=0)/\((X.m.length:Int)+1==0)=false:=by
 obtain⟨_,h1,h2,h3⟩:=hF.u8;have h4:=hF.few;have h5:¬(X.m.length:Int)=0:=by omega
 have h6:¬(X.m.length:Int)+1=0:=by omega
 have h7:Int.tmod (o.c:Int) ((X.m.length:Int)+1)=((o.c % (X.m.length+1):Nat):Int):=(Int.ofNat_tmod _ _).symm;have h8:=Nat.mod_le o.c (X.m.length+1);refine⟨⟨h1,h2,h3,h4⟩,⟨IntWalk.i64_in _ (by omega),IntWalk.i64_in _ (by omega),IntWalk.i64_in _ (by omega)⟩,IntWalk.i64_in _ (by omega),?_,h5,bn_ h5,h6,bn_ h6⟩;rw[h7];exact IntWalk.i64_in _ (by omega)
end A
end
section
open Go.RowKit Go.Sort
namespace A
open H G R
theorem jb_{lim:Option Nat}{m:aa_}{o:G.Op}(hk:o.kind % 10<3):G.step lim m o=match make m (2+o.kind % 10) o.s o.t o.al with|none=>([],1,m)|some m'=>([],0,m'):=by
 unfold G.step;rw[if_pos hk]
 cases make m (2+o.kind % 10) o.s o.t o.al<;>rfl
def made(kd:Nat)(s t:Bytes)(l:List (Bytes×Bytes)):Option G.Node:=
 if kd=2 then(if dp_ s && aW_ l []then some ⟨2,s,l.map (fun a=>(a.1,U.rep a.2)),[],none,[],false⟩else none)else some ⟨kd,[],[],U.rep t,none,[],false⟩
theorem fO_(m:aa_)(kd:Nat)(s t:Bytes)(l:List (Bytes×Bytes)):make m kd s t l=(made kd s t l).map (fun x=>m++[x]):=by
 unfold make made
 split
 ·split<;>rfl
 ·rfl
theorem lr_{kd:Nat}{s t:Bytes}{l:List (Bytes×Bytes)}{x:G.Node}(h:made kd s t l=some x):x.gone=false:=by
 unfold made at h
 split at h
 ·split at h
  ·injection h with h;rw[<-h]
  ·cases h
 ·injection h with h;rw[<-h]
theorem lT_{m:aa_}{x:G.Node}(i:Nat)(hi:i<m.length):has (m++[x]) i=has m i:=by unfold G.has;rw[bz_ hi]
theorem lL_{T T':am_}{pos pos':Nat->Nat}{m m':aa_}(hb:T'.bs=T.bs)(hs:T'.st=T.st)(hp:∀i,i<m.length->pos' i=pos i)(hh:∀i,i<m.length->has m' i=has m i):hvs T' pos' m' m.length=hvs T pos m m.length:=by
 unfold hvs;refine List.map_congr_left fun i hi=>?_;have hi:=List.mem_range.1 hi;unfold hv1 hd;rw[hh i hi,hb,hs,hp i hi]
theorem m8_(T:am_)(pos:Nat->Nat)(m:aa_)(n:Nat):hvs T pos m (n+1)=hvs T pos m n++[hv1 T pos m n]:=by
 unfold hvs;rw[List.range_succ,List.map_append];rfl
section
variable {w0 w:World} {X:Tw}
theorem be_.more2(h:be_ w0 w X){T':am_}{m':aa_}{pos':Nat->Nat}{M':aF_}{w1 w2 w3:World}{hv':Value}(f1:H.Frame X.T.foot w w1)(g1:Goes w X.T T')(t1:aj_ w1 T' m' pos')(f2:H.Frame X.M.foot w1 w2)(t2:ab_ w2 M')(l2:aO_ w1 X.M M')
  (hs:Sim m' M'.m) (hlen:X.m.length<=m'.length) (hsl:T'.slots.length<=m'.length)
  (hfS:H.Frame (fun k=>X.hv.ownBlock=some k\/k=X.tb) w2 w3) (hblk:Blk X.tb #[.pointer (some ⟨X.T.tb,0,none⟩),.pointer (some ⟨X.M.mb,0,none⟩),hv'] 41 w3)
  (hrow:w3.ownsRow X.B 3 1 hv' m'.length (bw_ (hvs T' pos' m' m'.length))) (hnew:∀k,hv'.ownBlock=some k->X.hv.ownBlock=some k\/w2.heap.size<=k) :
  be_ w0 w3 { X with T:=T',m:=m',pos:=pos',M:=M',hv:=hv' }:=by
 have hm:=h.mid f1;have hf1:∀k,T'.foot k->X.T.foot k\/w.heap.size<=k:=g1.foot;have hX1:∀k,X.foot k->k<w.heap.size:=fun k hk=>h.foot_lt hk;have hap1:∀k,T'.foot k->¬X.M.foot k:=fun k hk hM=>(hf1 k hk).elim (fun e=>h.apart k e hM) (fun e=>by have:=hX1 k (Or.inr (Or.inr (Or.inl hM)));omega);have ht2:aj_ w2 T' m' pos':=⟨al_.frame t1.mem f2 hap1 (fun r hr g hg hS=>e2_ t1.mem hm.model hS r hr hg),t1.fits⟩;have hs1:=f1.size;have hs2:=f2.size;have hs3:=hfS.size;have htb:¬T'.foot X.tb:=fun e=>(hf1 _ e).elim h.tb_tree (fun e=>by have:=hX1 X.tb (Or.inl rfl);omega);have hmb:¬M'.foot X.tb:=fun e=>(l2.foot _ e).elim h.tb_model (fun e=>by have:=hX1 X.tb (Or.inl rfl);omega)
 have hvT:∀k,X.hv.ownBlock=some k->¬T'.foot k:=fun k hk e=>(hf1 k e).elim (fun e=>(h.hap k hk).1 e) (fun e=>by have:=hX1 k (Or.inr (Or.inr (Or.inr hk)));omega);have hvM:∀k,X.hv.ownBlock=some k->¬M'.foot k:=fun k hk e=>(l2.foot k e).elim (fun e=>(h.hap k hk).2 e) (fun e=>by have:=hX1 k (Or.inr (Or.inr (Or.inr hk)));omega);have hrow2:=ah_ hm.row f2 (fun g hg hS=>(h.hap g hg).2 hS);have hblk2:=hm.blk.frame f2 h.tb_model;have ht3:aj_ w3 T' m' pos':=⟨al_.frame ht2.mem hfS (fun k hk hS=>hS.elim (fun e=>hvT k e hk) (fun e=>htb (by rw[<-e];exact hk))) (fun r hr g hg hS=>hS.elim (fun e=>cy_ ht2.mem hrow2 (by decide) e r hr hg) (fun e=>hj_ ht2.mem hblk2 (by decide) r hr (by rw[<-e];exact hg))),ht2.fits⟩
 have hm3:ab_ w3 M':=t2.frame hfS (fun k hk hS=>hS.elim (fun e=>hvM k e hk) (fun e=>hmb (by rw[<-e];exact hk)));have hnew2:∀k,hv'.ownBlock=some k->¬T'.foot k/\¬M'.foot k:=fun k hk=>⟨fun e=>(hnew k hk).elim (fun h1=>hvT k h1 e) (fun h1=>by have:=bB_ ht2.mem e;omega),fun e=>(hnew k hk).elim (fun h1=>hvM k h1 e) (fun h1=>by have:=R.foot_lt t2 e;omega)⟩;have hw:=h.bel.size;refine⟨ht3,hm3,hs,fun k hk hM=>?_,?_,hrow,hnew2,hsl,?_,fun k hk=>?_,(hm.fr.trans f2 (fun k hk=>h.flow k (Or.inr (Or.inr (Or.inl hk))))).trans hfS (fun k hk=>hk.elim (fun e=>h.flow k (Or.inr (Or.inr (Or.inr e)))) (fun e=>by rw[e];exact h.flow _ (Or.inl rfl))),fun k hk=>?_⟩
 ·rcases l2.foot k hM with e|e
  ·exact hap1 k hk e
  ·have:=bB_ t1.mem hk;omega
 ·show Blk X.tb #[.pointer (some ⟨T'.tb,0,none⟩),.pointer (some ⟨M'.mb,0,none⟩),hv'] _ w3
  rw[g1.tb,l2.mb];exact hblk
 ·refine(hm.bel.trans (f2.below (B:=w0.heap.size) (fun k hk=>h.low k (Or.inr (Or.inr (Or.inl hk)))) hm.bel.size)).trans (hfS.below (B:=w0.heap.size) (fun k hk=>hk.elim (fun e=>h.low k (Or.inr (Or.inr (Or.inr e)))) (fun e=>by rw[e];exact h.low _ (Or.inl rfl))) (by omega))
 ·rcases hk with e|e|e|e
  ·exact h.low k (Or.inl e)
  ·rcases hf1 k e with e|e
   ·exact h.low k (Or.inr (Or.inl e))
   ·omega
  ·rcases l2.foot k e with e|e
   ·exact h.low k (Or.inr (Or.inr (Or.inl e)))
   ·omega
  ·rcases hnew k e with e|e
   ·exact h.low k (Or.inr (Or.inr (Or.inr e)))
   ·omega
 ·show X.D k\/X.wD.heap.size<=k
  have hw:=h.fr.size
  rcases hk with e|e|e|e
  ·exact h.flow k (Or.inl e)
  ·rcases hf1 k e with e|e
   ·exact h.flow k (Or.inr (Or.inl e))
   ·exact Or.inr (by omega)
  ·rcases l2.foot k e with e|e
   ·exact h.flow k (Or.inr (Or.inr (Or.inl e)))
   ·exact Or.inr (by omega)
  ·rcases hnew k e with e|e
   ·exact h.flow k (Or.inr (Or.inr (Or.inr e)))
   ·exact Or.inr (by omega)
theorem be_.more(h:be_ w0 w X){T':am_}{m':aa_}{pos':Nat->Nat}{M':aF_}{w1 w2 w3:World}{hv':Value}(f1:H.Frame X.T.foot w w1)(g1:Goes w X.T T')(t1:aj_ w1 T' m' pos')(f2:H.Frame X.M.foot w1 w2)(t2:ab_ w2 M')(l2:aO_ w1 X.M M')
  (hs:Sim m' M'.m) (hlen:X.m.length<=m'.length) (hhas:∀i,i<X.m.length->has m' i=has X.m i) (hpos:∀i,i<X.m.length->pos' i=X.pos i) (hsl:T'.slots.length<=m'.length)
  (hfS:H.Frame (fun k=>X.hv.ownBlock=some k\/k=X.tb) w2 w3) (hblk:Blk X.tb #[.pointer (some ⟨X.T.tb,0,none⟩),.pointer (some ⟨X.M.mb,0,none⟩),hv'] 41 w3)
  (hrow:w3.ownsRow X.B 3 1 hv' m'.length (bw_ (hvs T' pos' m' m'.length))) (hnew:∀k,hv'.ownBlock=some k->X.hv.ownBlock=some k\/w2.heap.size<=k) :
  be_ w0 w3 { X with T:=T',m:=m',pos:=pos',M:=M',hv:=hv' }:=h.more2 f1 g1 t1 f2 t2 l2 hs hlen hsl hfS hblk hrow hnew
end
theorem ht_{w:World}{T:am_}{B size n k:Nat}{t:TypeId}{v:Value}{xs:List Value}(h:w.ownsRow B t size v n xs)(hT:al_ w T)(h1:t≠92)(h2:t≠210)(h3:t≠3)(hk:v.ownBlock=some k):¬T.foot k:=by
 rintro(e|e|e)
 ·rw[e]at hk;exact ak_ h hT.blk h1 hk
 ·exact aU_ h hT.row h2 hk (by rw[e];rfl)
 ·exact aU_ h hT.free h3 hk e
theorem sim_app{m m2:aa_}(h:Sim m m2)(x:G.Node):Sim (m++[x]) (m2++[x]):=by
 refine⟨by rw[List.length_append,List.length_append,h.len],fun i=>?_⟩;rw[aK_,aK_,h.len]
 split
 ·rfl
 ·exact h.same i
theorem hvs_new{T T':am_}{pos pos':Nat->Nat}{m:aa_}{x:G.Node}(hb:T'.bs=T.bs)(hs:T'.st=T.st)(hp:∀i,i<m.length->pos' i=pos i)(hx:x.gone=false) :
  bw_ (hvs T' pos' (m++[x]) (m++[x]).length)=bw_ (hvs T pos m m.length)++[.int .i64 (hd T' pos' m.length)]:=by
 have e1:hvs T' pos' (m++[x]) m.length=hvs T pos m m.length:=lL_ hb hs hp (fun i hi=>lT_ i hi);have e2:hv1 T' pos' (m++[x]) m.length=hd T' pos' m.length:=by
  unfold hv1;rw[if_pos];unfold G.has;rw[hB_,hx];rfl
 have e3:(m++[x]).length=m.length+1:=by simp
 rw[e3,m8_,e1,e2];unfold bw_;rw[List.map_append];rfl
end A
end
section
open Go.RowKit Go.Sort
namespace A
open H G R
theorem nN_{lim:Option Nat}{m:aa_}{o:G.Op}(hk:o.kind % 10=7):G.step lim m o=if has m (o.at_ m)=false then([],6,m)else replace m (o.at_ m) o.n o.k o.t:=by
 unfold G.step;rw[if_neg (by omega),if_neg (by omega)]
 split
 ·rfl
 ·repeat (first|rfl|rw[if_pos hk]|rw[if_neg (by omega)])
theorem fm_{m:aa_}{h:Nat}{i c:Int}{a:G.Bytes}:(replace m h i c a).1.length<=2/\(replace m h i c a).2.1<=10:=by
 unfold replace
 split
 ·simp
 ·split<;>simp
theorem rp_has{m:aa_}{h:Nat}{i c:Int}{a:G.Bytes}(hh:has m h=true):∀r,r∈(replace m h i c a).1->c7_ m r:=by
 unfold replace
 split
 ·intro r hr;cases hr
 ·split
  ·intro r hr;cases hr
  ·intro r hr;rw[List.mem_singleton.1 hr];exact⟨hh,fun i e=>(by cases e),fun i e=>(by cases e),fun i e=>(by cases e)⟩
theorem do7(w0 w:World)(X:Tw)(o:G.Op)(k:Nat)(h:be_ w0 w X)(hF:Fit w0 X o k)(hk:o.kind % 10=7) :
  Calls Tryz.prog 24 #[.pointer (some ⟨X.tb,0,none⟩),opV o] w fun e w'=>i2_ w0 w X o e w':=by
 have hl:=h.pos_len;obtain⟨e1,e2,e3,n1,n2,n3,q1,q2⟩:=cn_ o hl hF.few hF.u8 X.m rfl;have HOV:=di_ o;rw[HOV.out];have ek:Int.tmod (o.kind:Int) 10=7:=by rw[show(10:Int)=((10:Nat):Int)from rfl,<-Int.ofNat_tmod,hk];rfl
 obtain⟨hb1,HO1,HN0⟩:=dh_ w o;have H1:=hi_ (h.below hb1);have HB1:=hi_ hb1;obtain⟨g,cap,hv,_,hcap,_⟩:=h.toMid.cells hl;have HF:=hi_ hF;obtain⟨⟨ha1,ha2,ha3,hfw⟩,⟨wa1,wa2,wa3⟩,wn1,wc1,hn0,hn00,hn1,hn11⟩:=bW_ hF hl;have hgT:X.T.g<w.heap.size:=bB_ h.tree.mem (Or.inr (Or.inl rfl));have hs40:=hF.s40;have ht40:=hF.t40;have hn8:=hF.n8;have hk8:=hF.k8;have wn8:IntKind.i64.wrap o.n=o.n:=IntWalk.i64_in _ (by omega);have wk8:IntKind.i64.wrap o.k=o.k:=IntWalk.i64_in _ (by omega);clear hb1 HOV
 go_enter Tryz.func24,Tryz.ntmps24
 obtain⟨c0,c1,c2,hlt⟩:=cells3 H1.out.blk;obtain⟨o0,o1,o2,o3,o4,o5,o6,o7⟩:=a8_ HO1.out;have hlo:=HO1.out.lt;rw[hv]at c2;go_upto_region 2 with fail
 go_quiet (fail)
 rw[jY_ rfl hfw];have H2:=hi_ (H1.out.below (bdN (br_) nq));have HO2:=hi_ (HO1.out.below (bdN (br_) nq));have HB2:=hi_ (bdN HB1.out nq);have HN2:=hi_ (HN0.out nq);clear HN0;clear H1 HO1 HB1 c0 c1 c2 hlt o0 o1 o2 o3 o4 o5 o6 o7 hlo;generalize (w.alloc (.cells #[.int .u8 o.kind,.int .u8 o.a,.int .u8 o.b,.int .u8 o.c,.string ⟨o.s.toArray⟩,.string ⟨o.t.toArray⟩,.int .i8 o.n,.int .i8 o.k] 65)).drewN nq=w2 at *;obtain⟨c0,c1,c2,hlt⟩:=cells3 H2.out.blk;obtain⟨o0,o1,o2,o3,o4,o5,o6,o7⟩:=a8_ HO2.out;have hlo:=HO2.out.lt;rw[hv]at c2;have QH:=hi_ (fun(i:Nat) W (hb:Below w2.heap.size w2 W)=>gf_ X.M i W (H2.out.model.below hb));have HSm:=hi_ h.sim;have HV:=hi_ hv;have hst1:=nN_ (lim:=some 64) (m:=X.m) hk;have hst2:=nN_ (lim:=none) (m:=X.M.m) (o:=o) hk
 have hat:o.at_ X.M.m=o.at_ X.m:=by unfold Op.at_;rw[h.sim.len]
 rw[hat,<-h.sim.has]at hst2;obtain⟨a,ha⟩:∃a,a=o.at_ X.m:=⟨_,rfl⟩;rw[<-ha]at hst1 hst2 n1 ⊢;have HSt1:=hi_ hst1;have HSt2:=hi_ hst2;clear hst1 hst2 hat ha h hF e1 e2 e3 wa1 wa2 wa3 wn1 wc1 hn0 hn00 hn1 hn11 q1 q2;go_wp2_with fail
 refine(QH.out a w2 (br_)).mono ?_;rintro e w2' ⟨rfl,rfl⟩;rw[<-HSm.out.has];have hz:=H2.out.toMid.get hv n1;have hgl:=hz.2.2;have hai:(a:Int)<(X.m.length:Int):=by omega
 have ha0:(0:Int)<=(a:Int):=by omega
 have D0:=lc_ c0 hlt;have D2:=lc_ c2 hlt;have P4:=lc_ o4 hlo;have P5:=lc_ o5 hlo;have P6:=lc_ o6 hlo;have P7:=lc_ o7 hlo
 cases hha:has X.m a with
 |false=>
  rw[cj_ hha]at hz;have DZ:=fun d:Later w2.heap.size w2=>Later.cell hz.1 hgl d;have HR1:Hid (G.step (some 64) X.m o=([],6,X.m)):=hi_ (by rw[HSt1.out,if_pos hha]);have HR2:Hid (G.step none X.M.m o=([],6,X.M.m)):=hi_ (by rw[HSt2.out,if_pos hha]);have QN:=hi_ (fun W (hb:Below w2.heap.size w2 W)=>hu_ X.T (-1) o.n o.k o.t W (H2.out.below hb).tree.mem (by omega) (by omega) (cG_ H2.out.tree.fits 1));clear hha;go_upto_region 65 with fail
  refine an_ 19 _ _ (by kernel_rfl) (by kernel_rfl) rfl ?_;simp only[List.take_succ_cons,List.take_zero];repeat (go_big_quiet_step (fail))
  refine wq_ (fun dq=>?_);intro K hK;have HD3:=hi_ dq.h;clear D0 D2 DZ P4 P5 P6 P7;generalize dq.w=w3 at *;go_simp
  go_at_call 69
  refine(QN.out w3 HD3.out).mono ?_;rintro e w4 ⟨rfl,hb4⟩;have HB4:=bt_ HD3 hb4;go_simp
  refine hK _ _ (ar_ ?_);clear hK K;repeat (go_big_quiet_step (fail))
  refine wq_ (fun dq=>?_);have HB5:=bt_ HB4 dq.h;generalize dq.w=w5 at *;go_wp2_with fail
  refine bodyPost_ret (v:=.tuple #[.slice none 0 0,.bool true]) (by simp[results,Tryz.results24,go_sem]) rfl ⟨_,_,X,rfl,H2.out.below HB5.out,rfl,rfl,rfl,(fun _ _=>rfl),by rw[HR1.out],by rw[HR2.out],by rw[HR1.out];exact ax_.nil _ _ _ _,fun _ _=>rfl⟩
 |true=>
  rw[cE_ hha]at hz;have DZ:=fun d:Later w2.heap.size w2=>Later.cell hz.1 hgl d;have HR1:Hid (G.step (some 64) X.m o=replace X.m a o.n o.k o.t):=hi_ (by rw[HSt1.out,if_neg (by rw[hha];simp)]);have HR2:Hid (G.step none X.M.m o=replace X.M.m a o.n o.k o.t):=hi_ (by rw[HSt2.out,if_neg (by rw[hha];simp)]);have HRh:Hid (∀r,r∈(G.step (some 64) X.m o).1->c7_ X.m r):=hi_ (by rw[HR1.out];exact rp_has hha);have QN:=hi_ (fun W (hb:Below w2.heap.size w2 W)=>mH_ X.T X.m X.pos a o.n o.k o.t W (H2.out.below hb).tree hha (by have h1:(nd X.m a).data.length<=120*(k+1):=(HF.out.ok1 a).2.2;have:=HF.out.k200;omega) (by omega) (by omega) (by omega) (HF.out.tabs.below (H2.out.below hb).bel))
  have QM:=hi_ (fun W (hM:ab_ W X.M)=>m2_ X.M a o.n o.k o.t W hM (by rw[<-X.M.m_len,<-HSm.out.len];exact n1) (by have h1:(nd X.M.m a).data.length<=120*(k+1):=(HF.out.ok2 a).2.2;have:=HF.out.k200;omega) (HF.out.ok2 a).2.1 (by omega) (by omega) (by omega));rw[<-HR1.out]at QN;rw[<-HR2.out]at QM;have HHas:=hi_ hha;have hl1:(G.step (some 64) X.m o).1.length<=2:=by rw[HR1.out];exact fm_.1
  have hl2:(G.step none X.M.m o).1.length<=2:=by rw[HR2.out];exact fm_.1
  have he1:(G.step (some 64) X.m o).2.1<=10:=by rw[HR1.out];exact fm_.2
  have he2:(G.step none X.M.m o).2.1<=10:=by rw[HR2.out];exact fm_.2
  clear hha HSt1 HSt2 HR1 HR2;go_upto_region 65 with fail
  refine an_ 19 _ _ (by kernel_rfl) (by kernel_rfl) rfl ?_;simp only[List.take_succ_cons,List.take_zero];repeat (go_big_quiet_step (fail))
  refine wq_ (fun dq=>?_);intro K hK;have HD3:=hi_ dq.h;clear D0 D2 DZ P4 P5 P6 P7;generalize dq.w=w3 at *;go_simp
  go_at_call 69
  refine(QN.out w3 HD3.out).mono ?_;rintro e w4 ⟨v4,T4,rfl,hf4,hl4,ht4,hr4⟩;have H3:=hi_ (H2.out.below HD3.out);have HP4:=hi_ (⟨hf4,hl4,ht4,hr4⟩:_/\_/\_/\_);have HO4:=hi_ ((HO2.out.below HD3.out).frame hf4 (show ¬w.heap.size=X.T.g by omega));have HM4:=hi_ (H3.out.mid (hf4.wide (fun k hk=>Or.inr (Or.inl hk))));have hv4s:=ac_.slice hr4;obtain⟨ao4,cap4,rfl⟩:=hv4s;clear hf4 hl4 ht4 hr4 QN;go_simp
  refine hK _ _ (ar_ ?_);clear hK K;repeat (go_big_quiet_step (fail))
  refine wq_ (fun dq=>?_);have HD5:=hi_ dq.h;generalize dq.w=w5 at *;have HM5:=hi_ (HM4.out.below HD5.out);obtain⟨c0',c1',c2',hlt'⟩:=cells3 HM5.out.blk;rw[HV.out]at c2';have HO5:=hi_ (HO4.out.below HD5.out);obtain⟨_,_,_,_,r4,r5,r6,r7⟩:=a8_ HO5.out;have hlo5:=HO5.out.lt;have P0:=lc_ r4 hlo5;have P1:=lc_ r5 hlo5;have P2:=lc_ r6 hlo5;have P3:=lc_ r7 hlo5;go_upto_region 69 with fail
  have E1:=fun d:Later w5.heap.size w5=>Later.cell c1' hlt' d;refine an_ 13 _ _ (by kernel_rfl) (by kernel_rfl) rfl ?_;simp only[List.take_succ_cons,List.take_zero];repeat (go_big_quiet_step (fail))
  refine wq_ (fun dq=>?_);intro K hK;have HD55:=bt_ HD5 dq.h;have HM55:=hi_ (HM5.out.below dq.h);clear E1 P0 P1 P2 P3;generalize dq.w=w55 at *;go_simp
  go_at_call 70
  refine(QM.out w55 HM55.out.model).mono ?_;rintro e w66 ⟨v6,M6,rfl,hf6,hm6,hme6,hl6,hr6⟩;have HP6:=hi_ (⟨hf6,hm6,hme6,hl6,hr6⟩:_/\_/\_/\_/\_);have hv6t:=ac_.slice hr6;obtain⟨ao6,cap6,rfl⟩:=hv6t;clear hf6 hm6 hme6 hl6 hr6;go_simp
  refine hK _ _ (ar_ ?_);clear hK K;repeat (go_big_quiet_step (fail))
  refine wq_ (fun dq=>?_);have HD6:=hi_ dq.h;generalize dq.w=w6 at *;have hf6:=HP6.out.1.below_ HD6.out;have hm6:=HP6.out.2.1.below HD6.out;have hme6:=HP6.out.2.2.1;have hl6:=HP6.out.2.2.2.1;have hr6:=own_below HP6.out.2.2.2.2 HD6.out;change aJ_ _ w6 _ _ at hr6;clear HP6 HD6 HM5 HD5;have HD5:=HD55;have HM5:=HM55;clear HD55 HM55;have HN:=hi_ (e0_ HF.out H3.out (Nat.le_trans HB2.out.size HD3.out.size) HP4.out.1 HP4.out.2.1 HP4.out.2.2.1 HP4.out.2.2.2 HD5.out (hf6.wide (fun k hk=>Or.inr (Or.inl hk))) hm6 hme6 hl6 (by omega));have HLk:=hi_ HP4.out.2.1;have HMe:=hi_ hme6;have HRc6:=hi_ hr6;have HPo:=hi_ (fun w7 b (hb:Below w6.heap.size w6 w7) hbb=>eZ_ (w:=w) (w7:=w7) (b:=b) HN.out HLk.out HMe.out hb hbb);have HAg:=hi_ HF.out.agree
  have HKg:=hi_ (fun i=>(cv_ (lim:=some 64) (m:=X.m) (o:=o) (by omega)).has i);have hml:0<({ X with T:=T4,m:=(G.step (some 64) X.m o).2.2,pos:=X.pos,M:=M6 }:Tw).m.length:=HN.out.1.pos_len;have QS:=hi_ (fun(hq:(G.step (some 64) X.m o).1=(G.step none X.M.m o).1)=>cp_ HN.out.1.toMid hml (G.step (some 64) X.m o).1 _ _ _ _ HN.out.2 (by rw[hq];exact HRc6.out) (by omega) (fun r hr=>by
   obtain⟨h1,h2,h3,h4⟩:=HRh.out r hr;have hk:=HKg.out;exact⟨(hk _).trans h1,fun i e=>(hk _).trans (h2 i e),fun i e=>(hk _).trans (h3 i e),fun i e=>(hk _).trans (h4 i e)⟩))
  have QY:=hi_ (fun(hq:(G.step (some 64) X.m o).1.length≠(G.step none X.M.m o).1.length)=>dl_ HN.out.1.toMid hml T4 X.pos _ _ _ _ _ _ HN.out.2 HRc6.out hq (by omega) (by omega));clear hf6 hm6 hme6 hl6 hr6 QM HP4 HM4 HM5 HD5 HD3 H3 c0' c1' c2' hlt' HRh HKg hml;have HQl:=hi_ (fun(e:(G.step (some 64) X.m o).1=(G.step none X.M.m o).1)=>congrArg List.length e);generalize (G.step (some 64) X.m o).1.length=n4 at *;generalize (G.step none X.M.m o).1.length=n6 at *;generalize hz1:(G.step (some 64) X.m o).2.1=z1 at *;generalize hz2:(G.step none X.M.m o).2.1=z2 at *
  by_cases he:z1=z2
  ·subst he
   rcases HAg.out with hq|hq|hq
   ·have Q:=hi_ (QS.out hq)
    clear QS QY;go_wp2_with fail
    refine Q.out.mono ?_;rintro e w7 ⟨rfl,hb7⟩;have HP:=hi_ (HPo.out w7 true hb7 (fun _ _=>rfl));clear hb7 Q HPo;go_wp2_with fail
    exact bodyPost_ret (v:=.tuple #[.slice ao4 n4 cap4,.bool true]) (by simp[results,Tryz.results24,go_sem]) rfl HP.out
   ·have Q:=hi_ (QY.out hq)
    have HP:=hi_ (fun w7 (hb:Below w6.heap.size w6 w7)=>HPo.out w7 false hb (fun e _=>absurd (HQl.out e) hq));clear QS QY HPo;go_wp2_with fail
    refine Q.out.mono ?_;rintro e w7 ⟨rfl,hb7⟩;have HP7:=hi_ (HP.out w7 hb7);clear hb7 Q HP;go_wp2_with fail
    exact bodyPost_ret (v:=.tuple #[.slice ao4 n4 cap4,.bool false]) (by simp[results,Tryz.results24,go_sem]) rfl HP7.out
   ·exact absurd rfl hq
  ·have hzz:((z1:Int)==(z2:Int))=false:=bn_ (by omega)
   have hzz2:¬(z1:Int)=(z2:Int):=by omega
   have HP:=hi_ (HPo.out w6 false (br_) (fun _ e=>absurd e he));clear QS QY HPo he;go_wp2_with fail
   exact bodyPost_ret (v:=.tuple #[.slice ao4 n4 cap4,.bool false]) (by simp[results,Tryz.results24,go_sem]) rfl HP.out
end A
end
end Go.Proofs.YtinphfpdfodkkaaGreatDoor
