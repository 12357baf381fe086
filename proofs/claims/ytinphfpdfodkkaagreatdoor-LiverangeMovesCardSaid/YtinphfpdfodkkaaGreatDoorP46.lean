/- Texts. -/
import Derived.Test.YtinphfpdfodkkaaGreatDoorP32
set_option linter.unusedVariables false
set_option linter.unusedSimpArgs false
set_option maxHeartbeats 8000000
set_option maxRecDepth 100000
namespace Go.Proofs.YtinphfpdfodkkaaGreatDoor
section
open Go.RowKit Go.Sort
namespace A
open H G R
theorem gone_up{m:aa_}(W:WF m){h:Nat}(x:Nat):contains m h x=true->(nd m x).gone=(nd m h).gone:=by
 refine W.up_ind (P:=fun x=>contains m h x=true->(nd m x).gone=(nd m h).gone) (fun x hx hc=>?_) (fun x p hx ih hc=>?_) x
 ·rw[W.contains_root hx]at hc
  rw[beq_iff_eq.1 hc]
 ·rw[W.contains_step hx,Bool.or_eq_true]at hc
  rcases hc with hc|hc
  ·rw[beq_iff_eq.1 hc]
  ·rw[W.gone x p hx,ih hc]
def b0_(m':aa_)(rs:List Rec)(q:Nat×Nat):Nat×Nat:=rs.foldl (fun q r=>bc_ m' r q) q
structure RecOk(m:aa_)(r:Rec):Prop where
 tgt:has m r.target=true
 cut:r.kind=2->∃h,r.node=some h/\(nd m h).parent=some r.target
 idx:r.index<=1000000
 cnt:r.count<=1000000
 siz:r.size<=1000000
def jQ_(m:aa_)(rs:List Rec):Prop:=∀r∈rs,RecOk m r
theorem lZ_{m m':aa_}(W:WF m)(W':WF m')(hK:cV_ m m'){r:Rec}(hr:r.kind=2->∃h,r.node=some h/\(nd m h).parent=some r.target)(q:Nat×Nat)(hq:has m q.1=true):has m (bc_ m' r q).1=true:=by
 unfold bc_
 split
 ·rename_i c
  obtain⟨c1,h,c2,c3⟩:=c;obtain⟨h2,e1,e2⟩:=hr c1;rw[c2]at e1;injection e1 with e1
  subst e1;show has m r.target=true;have g1:=gone_up W' q.1 c3;rw[hK.2,hK.2]at g1;have g2:=W.gone h r.target e2;unfold G.has at hq ⊢;rw[<-g2,<-g1];exact hq
 ·repeat' split
  all_goals exact hq
theorem fZ_{m m':aa_}(W:WF m)(W':WF m')(hK:cV_ m m'):∀(rs:List Rec),jQ_ m rs->∀q:Nat×Nat,has m q.1=true->has m (b0_ m' rs q).1=true
 |[],_,q,hq=>hq
 |r :: rs,hr,q,hq=>fZ_ W W' hK rs (fun x hx=>hr x (List.mem_cons_of_mem _ hx)) _ (lZ_ W W' hK (hr r List.mem_cons_self).cut q hq)
theorem sim_le{m m':aa_}(W:WF m)(S:Sim m m'):Shape m m'/\∀q,cU_ m q->cU_ m' q:=
 ⟨⟨W,S.wf W,fun i=>(S.parent i).symm,fun i=>(S.kids i).symm⟩,fun q hq=>⟨by rw[<-S.len];exact hq.1,by
  have h2:=hq.2;unfold G.sizeOf at h2 ⊢;rw[<-S.kind,<-S.kids,<-S.data];exact h2⟩⟩
theorem sim_upd(m:aa_)(h:Nat)(f:G.Node->G.Node)(hf:∀x,er (f x)=er x):Sim m (upd m h f):=by
 refine⟨by rw[cM_],fun i=>?_⟩
 rcases Nat.lt_or_ge h m.length with hl|hl
 ·rw[cC_ hl]
  split
  ·rename_i e
   rw[hf,e]
  ·rfl
 ·rw[gT_ hl]
def gR_(m m':aa_)(rs:List Rec)(x y:Nat×Nat):Prop:=
 WF m'/\cU_ m' (b0_ m' rs x)/\cU_ m' (b0_ m' rs y)/\top m' (b0_ m' rs x).1=top m' (b0_ m' rs y).1/\lcmp m' (b0_ m' rs x) (b0_ m' rs y)<=0
section
variable {m:aa_} {x y:Nat×Nat}
theorem iT_(W:WF m)(hx:cU_ m x)(hy:cU_ m y)(ht:top m x.1=top m y.1)(hle:lcmp m x y<=0):gR_ m m [] x y/\jQ_ m []:=⟨⟨W,hx,hy,ht,hle⟩,fun r hr=>by cases hr⟩
theorem lX_(m':aa_)(h:Nat)(nm old:G.Bytes)(had:Bool)(q:Nat×Nat):b0_ m' [bg_ h nm old had] q=q:=by
 show bc_ m' (bg_ h nm old had) q=q;unfold bc_ bg_;dsimp only;rw[if_neg (by rintro⟨e,_⟩;cases e)]
 split
 ·rfl
 ·rw[if_neg (by decide),if_neg (by decide),if_neg (by decide)]
theorem ek_(W:WF m)(hx:cU_ m x)(hy:cU_ m y)(ht:top m x.1=top m y.1)(hle:lcmp m x y<=0)(h:Nat)(hl:has m h=true)(f:G.Node->G.Node)(hf:∀n,er (f n)=er n)(nm old:G.Bytes)(had:Bool):gR_ m (upd m h f) [bg_ h nm old had] x y/\jQ_ m [bg_ h nm old had]:=by
 obtain⟨S,hp⟩:=sim_le W (sim_upd m h f hf);refine⟨?_,fun r hr=>?_⟩
 ·unfold gR_
  rw[lX_,lX_];exact⟨S.wf',hp x hx,hp y hy,by rw[(S.tops _).1,(S.tops _).1,ht],by rw[S.lcmp ht];exact hle⟩
 ·obtain rfl:r=bg_ h nm old had:=by simpa using hr
  exact⟨hl,(fun e=>by cases e),Nat.zero_le _,Nat.zero_le _,Nat.zero_le _⟩
theorem kg_{m':aa_}(h i c z:Nat)(old:G.Bytes)(q:Nat×Nat):bc_ m' ⟨4,h,none,none,none,i,[],old,false,c,z⟩ q=cZ_ h i c z q:=by
 unfold bc_ cZ_;dsimp only;rw[if_neg (by rintro⟨e,_⟩;cases e)]
 by_cases c2:q.1=h/\i<q.2
 ·rw[if_pos c2,if_neg (fun h3=>h3.elim (fun h4=>h4 c2.1) (fun h4=>by omega)),if_neg (by decide),if_neg (by decide),if_pos rfl,c2.1]
 ·rw[if_neg c2,if_pos]
  by_cases e:q.1=h
  ·exact Or.inr (by have:¬i<q.2:=fun h4=>c2 ⟨e,h4⟩;omega)
  ·exact Or.inl e
theorem n3_(W:WF m)(hl:m.length<=2000){h q:Nat}(hh:has m h=true)(hq:(nd m h).parent=some q):RecOk m (bU_ m h q):=by
 have h1:=dX_ W q;have h2:(nd m q).kids.idxOf h<=(nd m q).kids.length:=List.idxOf_le_length;refine⟨?_,fun _=>⟨h,rfl,hq⟩,?_,Nat.zero_le _,Nat.zero_le _⟩
 ·show has m q=true
  unfold G.has at hh ⊢;rw[<-W.gone h q hq];exact hh
 ·show(nd m q).kids.idxOf h<=_
  omega
theorem put_idx(W:WF m)(hl:m.length<=2000)(h p:Nat)(b:Option Nat):placeOf (out m h) p b<=1000000:=by
 have h1:WF (out m h)/\(out m h).length=m.length:=by
  unfold out
  cases hq:(nd m h).parent with
  |none=>exact⟨W,rfl⟩
  |some q=>exact⟨W.cut hq,cB_ _ _ _⟩
 have h2:=dX_ h1.1 p;rw[h1.2]at h2;unfold placeOf
 cases b with
 |none=>show(nd (out m h) p).kids.length<=_;omega
 |some x=>
  have h3:(nd (out m h) p).kids.idxOf x<=(nd (out m h) p).kids.length:=List.idxOf_le_length;show(nd (out m h) p).kids.idxOf x<=_;omega
theorem iS_(W:WF m)(hD:Whole m)(hl:m.length<=2000){o:G.Op}(h40:o.t.length<=40){lim:Option Nat}(hk:3<=o.kind % 10/\o.kind % 10<8)(hx:cU_ m x)(hy:cU_ m y)(ht:top m x.1=top m y.1)(hle:lcmp m x y<=0) :
  gR_ m (G.step lim m o).2.2 (G.step lim m o).1 x y/\jQ_ m (G.step lim m o).1:=by
 have h0:=iT_ W hx hy ht hle;have hpos:=W.doc.1;have hat:o.at_ m<m.length:=Nat.mod_lt _ hpos;have hbt:o.bt m<m.length:=Nat.mod_lt _ hpos;unfold G.step;rw[if_neg (by omega)]
 split
 ·split
  ·rename_i hh
   simp only[Bool.and_eq_true]at hh;have hg:(nd m (o.at_ m)).gone=(nd m (o.bt m)).gone:=by
    have h1:=hh.1;have h2:=hh.2.1;unfold G.has at h1 h2;simp only[Bool.not_eq_true']at h1 h2;rw[h1,h2]
   refine⟨lE_ W hat hbt hg hx hy ht hle,?_⟩;unfold G.insert
   split
   ·exact h0.2
   ·split
    ·exact h0.2
    ·intro r hr
     rcases List.mem_append.1 hr with hr|hr
     ·unfold bp_ at hr
      cases hq:(nd m (o.at_ m)).parent with
      |none=>rw[hq]at hr;cases hr
      |some q=>
       rw[hq]at hr;obtain rfl:r=bU_ m (o.at_ m) q:=by simpa using hr
       exact n3_ W hl hh.1 hq
     ·have e:r=dE_ (out m (o.at_ m)) (o.bt m) (o.at_ m) (placeOf (out m (o.at_ m)) (o.bt m) (aC_ m (o.at_ m) (o.ct m))):=by simpa using hr
      rw[e];exact⟨hh.2.1,(fun e=>by cases e),put_idx W hl _ _ _,Nat.zero_le _,Nat.zero_le _⟩
  ·exact h0
 ·split
  ·exact h0
  ·rename_i hn
   have hh:has m (o.at_ m)=true:=by simpa using hn
   split
   ·unfold G.by_
    split
    ·exact h0
    ·split
     ·exact h0
     ·rename_i q hq
      refine⟨⟨W.cut hq,?_⟩,fun r hr=>?_⟩
      ·have hg:∀z,b0_ (cut m (o.at_ m) q) [bU_ m (o.at_ m) q] z=fY_ m (o.at_ m) q ((nd m q).kids.idxOf (o.at_ m)) z:=fun z=>fX_ (fun y=>dM_ W hq y) z
       dsimp only;rw[hg,hg];exact n4_ W hq hx hy ht hle
      ·obtain rfl:r=bU_ m (o.at_ m) q:=by simpa using hr
       exact n3_ W hl hh hq
   ·split
    ·unfold G.aD_
     split
     ·exact h0
     ·split
      ·exact h0
      ·split
       ·refine ek_ W hx hy ht hle _ hh _ ?_ _ _ _;exact fun n=>rfl
       ·split
        ·exact h0
        ·refine ek_ W hx hy ht hle _ hh _ ?_ _ _ _;exact fun n=>rfl
    ·split
     ·unfold G.aG_
      split
      ·exact h0
      ·split
       ·exact h0
       ·refine ek_ W hx hy ht hle _ hh _ ?_ _ _ _;exact fun n=>rfl
     ·split
      ·unfold G.replace
       split
       ·exact h0
       ·split
        ·exact h0
        ·rename_i c1 c2
         have hS:=er_ (d:=U.splice (nd m (o.at_ m)).data o.t o.n.toNat (min o.k.toNat ((U.pts (nd m (o.at_ m)).data).length-o.n.toNat))) W hat;refine⟨⟨hS.wf',?_⟩,fun r hr=>?_⟩
         ·have hd:=data_le (s:=o.t) (i:=o.n.toNat) (c:=min o.k.toNat ((U.pts (nd m (o.at_ m)).data).length-o.n.toNat)) W (show 2<(nd m (o.at_ m)).kind by omega) (by omega) hx hy ht hle
          have hg:∀m' z,b0_ m' [⟨4,o.at_ m,none,none,none,o.n.toNat,[],(nd m (o.at_ m)).data,false,min o.k.toNat ((U.pts (nd m (o.at_ m)).data).length-o.n.toNat),(U.pts o.t).length⟩] z=cZ_ (o.at_ m) o.n.toNat (min o.k.toNat ((U.pts (nd m (o.at_ m)).data).length-o.n.toNat)) (U.pts o.t).length z:=fun m' z=>kg_ (m':=m') _ _ _ _ _ z;dsimp only;rw[hg,hg];exact hd
         ·have e:r=⟨4,o.at_ m,none,none,none,o.n.toNat,[],(nd m (o.at_ m)).data,false,min o.k.toNat ((U.pts (nd m (o.at_ m)).data).length-o.n.toNat),(U.pts o.t).length⟩:=by simpa using hr
          rw[e];have p1:(U.pts (nd m (o.at_ m)).data).length<=100000:=Nat.le_trans (U.cK_ _) (hD _).1;have p2:(U.pts o.t).length<=40:=Nat.le_trans (U.cK_ _) h40;refine⟨hh,(fun e=>by cases e),?_,?_,?_⟩
          ·show o.n.toNat<=_;omega
          ·show min _ _<=_;omega
          ·show(U.pts o.t).length<=_;omega
      ·omega
end
end A
end
end Go.Proofs.YtinphfpdfodkkaaGreatDoor
