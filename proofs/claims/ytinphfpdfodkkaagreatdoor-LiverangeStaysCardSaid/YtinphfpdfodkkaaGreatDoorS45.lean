/- Texts. -/
import Derived.Test.YtinphfpdfodkkaaGreatDoorS30
import Derived.Test.YtinphfpdfodkkaaGreatDoorS29
set_option linter.unusedVariables false
set_option linter.unusedSimpArgs false
set_option maxHeartbeats 8000000
set_option maxRecDepth 100000
namespace Go.Proofs.YtinphfpdfodkkaaGreatDoor
section
open Go.RowKit Go.Sort
namespace A
open H G R
theorem mL_{m:aa_}(W:WF m){h:Nat}(x:Nat):contains m h x=true->(nd m x).gone=(nd m h).gone:=by
 refine W.up_ind (P:=fun x=>contains m h x=true->(nd m x).gone=(nd m h).gone) (fun x hx hc=>?_) (fun x p hx ih hc=>?_) x
 ·rw[W.contains_root hx]at hc
  rw[beq_iff_eq.1 hc]
 rw[W.contains_step hx,Bool.or_eq_true]at hc
 rcases hc with hc|hc
 ·rw[beq_iff_eq.1 hc]
 rw[W.gone x p hx,ih hc]
def cy_(m':aa_)(rs:List Rec)(q:Nat×Nat):Nat×Nat:=rs.foldl (fun q r=>bi_ m' r q) q
structure RecOk(m:aa_)(r:Rec):Prop where
 tgt:has m r.target=true
 cut:r.kind=2->∃h,r.node=some h/\(nd m h).parent=some r.target
 idx:r.index<=1000000
 cnt:r.count<=1000000
 siz:r.size<=1000000
def iN_(m:aa_)(rs:List Rec):Prop:=∀r∈rs,RecOk m r
theorem mR_{m m':aa_}(W:WF m)(W':WF m')(hK:dj_ m m'){r:Rec}(hr:r.kind=2->∃h,r.node=some h/\(nd m h).parent=some r.target)(q:Nat×Nat)(hq:has m q.1=true):has m (bi_ m' r q).1=true:=by
 unfold bi_
 split
 ·rename_i c
  obtain⟨c1,h,c2,c3⟩:=c;obtain⟨h2,e1,e2⟩:=hr c1;rw[c2]at e1;injection e1 with e1
  subst e1;show has m r.target=true;have g1:=mL_ W' q.1 c3;rw[hK.2,hK.2]at g1;have g2:=W.gone h r.target e2;unfold G.has at hq ⊢;rw[<-g2,<-g1];exact hq
 repeat' split
 all_goals exact hq
theorem gg_{m m':aa_}(W:WF m)(W':WF m')(hK:dj_ m m'):∀(rs:List Rec),iN_ m rs->∀q:Nat×Nat,has m q.1=true->has m (cy_ m' rs q).1=true
 |[],_,q,hq=>hq
 |r :: rs,hr,q,hq=>gg_ W W' hK rs (fun x hx=>hr x (List.mem_cons_of_mem _ hx)) _ (mR_ W W' hK (hr r List.mem_cons_self).cut q hq)
theorem sim_le{m m':aa_}(W:WF m)(S:Sim m m'):Shape m m'/\∀q,ef_ m q->ef_ m' q:=
 ⟨⟨W,S.wf W,fun i=>(S.parent i).symm,fun i=>(S.kids i).symm⟩,fun q hq=>⟨by rw[<-S.len];exact hq.1,by
  have h2:=hq.2;unfold G.sizeOf at h2 ⊢;rw[<-S.kind,<-S.kids,<-S.data];exact h2⟩⟩
theorem dD_(m:aa_)(h:Nat)(f:G.Node->G.Node)(hf:∀x,er (f x)=er x):Sim m (upd m h f):=by
 refine⟨by rw[cV_],fun i=>?_⟩
 rcases Nat.lt_or_ge h m.length with hl|hl
 ·rw[cn_ hl]
  split
  ·rename_i e
   rw[hf,e]
  rfl
 rw[em_ hl]
def kq_(m m':aa_)(rs:List Rec)(x y:Nat×Nat):Prop:=
 WF m'/\ef_ m' (cy_ m' rs x)/\ef_ m' (cy_ m' rs y)/\top m' (cy_ m' rs x).1=top m' (cy_ m' rs y).1/\lcmp m' (cy_ m' rs x) (cy_ m' rs y)<=0
section
variable {m:aa_} {x y:Nat×Nat}
theorem jt_(W:WF m)(hx:ef_ m x)(hy:ef_ m y)(ht:top m x.1=top m y.1)(hle:lcmp m x y<=0):kq_ m m [] x y/\iN_ m []:=⟨⟨W,hx,hy,ht,hle⟩,fun r hr=>by cases hr⟩
theorem mP_(m':aa_)(h:Nat)(nm old:G.Bytes)(had:Bool)(q:Nat×Nat):cy_ m' [aM_ h nm old had] q=q:=by
 show bi_ m' (aM_ h nm old had) q=q;unfold bi_ aM_;dsimp only;rw[if_neg (by rintro⟨e,_⟩;cases e)]
 split
 ·rfl
 rw[if_neg (by decide),if_neg (by decide),if_neg (by decide)]
theorem ew_(W:WF m)(hx:ef_ m x)(hy:ef_ m y)(ht:top m x.1=top m y.1)(hle:lcmp m x y<=0)(h:Nat)(hl:has m h=true)(f:G.Node->G.Node)(hf:∀n,er (f n)=er n)(nm old:G.Bytes)(had:Bool):kq_ m (upd m h f) [aM_ h nm old had] x y/\iN_ m [aM_ h nm old had]:=by
 obtain⟨S,hp⟩:=sim_le W (dD_ m h f hf);refine⟨?_,fun r hr=>?_⟩
 ·unfold kq_
  rw[mP_,mP_];exact⟨S.wf',hp x hx,hp y hy,by rw[(S.tops _).1,(S.tops _).1,ht],by rw[S.lcmp ht];exact hle⟩
 obtain rfl:r=aM_ h nm old had:=by simpa using hr
 exact⟨hl,(fun e=>by cases e),Nat.zero_le _,Nat.zero_le _,Nat.zero_le _⟩
theorem k3_{m':aa_}(h i c z:Nat)(old:G.Bytes)(q:Nat×Nat):bi_ m' ⟨4,h,none,none,none,i,[],old,false,c,z⟩ q=db_ h i c z q:=by
 unfold bi_ db_;dsimp only;rw[if_neg (by rintro⟨e,_⟩;cases e)]
 by_cases c2:q.1=h/\i<q.2
 ·rw[if_pos c2,if_neg (fun h3=>h3.elim (fun h4=>h4 c2.1) (fun h4=>by omega)),if_neg (by decide),if_neg (by decide),if_pos rfl,c2.1]
 rw[if_neg c2,if_pos]
 by_cases e:q.1=h
 ·exact Or.inr (by have:¬i<q.2:=fun h4=>c2 ⟨e,h4⟩;omega)
 exact Or.inl e
theorem o7_(W:WF m)(hl:m.length<=2000){h q:Nat}(hh:has m h=true)(hq:(nd m h).parent=some q):RecOk m (bm_ m h q):=by
 have h1:=e8_ W q;have h2:(nd m q).kids.idxOf h<=(nd m q).kids.length:=List.idxOf_le_length;refine⟨?_,fun _=>⟨h,rfl,hq⟩,?_,Nat.zero_le _,Nat.zero_le _⟩
 ·show has m q=true
  unfold G.has at hh ⊢;rw[<-W.gone h q hq];exact hh
 show(nd m q).kids.idxOf h<=_;omega
theorem put_idx(W:WF m)(hl:m.length<=2000)(h p:Nat)(b:Option Nat):placeOf (out m h) p b<=1000000:=by
 have h1:WF (out m h)/\(out m h).length=m.length:=by
  unfold out
  cases hq:(nd m h).parent with
  |none=>exact⟨W,rfl⟩
  |some q=>exact⟨W.cut hq,cK_ _ _ _⟩
 have h2:=e8_ h1.1 p;rw[h1.2]at h2;unfold placeOf
 cases b with
 |none=>show(nd (out m h) p).kids.length<=_;omega
 |some x=>
  have h3:(nd (out m h) p).kids.idxOf x<=(nd (out m h) p).kids.length:=List.idxOf_le_length;show(nd (out m h) p).kids.idxOf x<=_;omega
theorem gr_(W:WF m)(hD:Whole m)(hl:m.length<=2000){o:G.Op}(h40:o.t.length<=40){lim:Option Nat}(hk:3<=o.kind % 10/\o.kind % 10<8)(hx:ef_ m x)(hy:ef_ m y)(ht:top m x.1=top m y.1)(hle:lcmp m x y<=0) :
  kq_ m (G.step lim m o).2.2 (G.step lim m o).1 x y/\iN_ m (G.step lim m o).1:=by
 have h0:=jt_ W hx hy ht hle;have hpos:=W.doc.1;have hat:o.at_ m<m.length:=Nat.mod_lt _ hpos;have hbt:o.bt m<m.length:=Nat.mod_lt _ hpos;unfold G.step;rw[if_neg (by omega)]
 split
 ·split
  ·rename_i hh
   simp only[Bool.and_eq_true]at hh;have hg:(nd m (o.at_ m)).gone=(nd m (o.bt m)).gone:=by
    have h1:=hh.1;have h2:=hh.2.1;unfold G.has at h1 h2;simp only[Bool.not_eq_true']at h1 h2;rw[h1,h2]
   refine⟨mu_ W hat hbt hg hx hy ht hle,?_⟩;unfold G.insert
   split
   ·exact h0.2
   split
   ·exact h0.2
   intro r hr
   rcases List.mem_append.1 hr with hr|hr
   ·unfold a6_ at hr
    cases hq:(nd m (o.at_ m)).parent with
    |none=>rw[hq]at hr;cases hr
    |some q=>
     rw[hq]at hr;obtain rfl:r=bm_ m (o.at_ m) q:=by simpa using hr
     exact o7_ W hl hh.1 hq
   have e:r=cY_ (out m (o.at_ m)) (o.bt m) (o.at_ m) (placeOf (out m (o.at_ m)) (o.bt m) (aA_ m (o.at_ m) (o.ct m))):=by simpa using hr
   rw[e];exact⟨hh.2.1,(fun e=>by cases e),put_idx W hl _ _ _,Nat.zero_le _,Nat.zero_le _⟩
  exact h0
 split
 ·exact h0
 rename_i hn
 have hh:has m (o.at_ m)=true:=by simpa using hn
 split
 ·unfold G.bd_
  split
  ·exact h0
  split
  ·exact h0
  rename_i q hq
  refine⟨⟨W.cut hq,?_⟩,fun r hr=>?_⟩
  ·have hg:∀z,cy_ (cut m (o.at_ m) q) [bm_ m (o.at_ m) q] z=gf_ m (o.at_ m) q ((nd m q).kids.idxOf (o.at_ m)) z:=fun z=>ge_ (fun y=>de_ W hq y) z
   dsimp only;rw[hg,hg];exact o8_ W hq hx hy ht hle
  obtain rfl:r=bm_ m (o.at_ m) q:=by simpa using hr
  exact o7_ W hl hh hq
 split
 ·unfold G.az_
  split
  ·exact h0
  split
  ·exact h0
  split
  ·refine ew_ W hx hy ht hle _ hh _ ?_ _ _ _;exact fun n=>rfl
  split
  ·exact h0
  refine ew_ W hx hy ht hle _ hh _ ?_ _ _ _;exact fun n=>rfl
 split
 ·unfold G.ax_
  split
  ·exact h0
  split
  ·exact h0
  refine ew_ W hx hy ht hle _ hh _ ?_ _ _ _;exact fun n=>rfl
 split
 ·unfold G.replace
  split
  ·exact h0
  split
  ·exact h0
  rename_i c1 c2
  have hS:=eE_ (d:=U.splice (nd m (o.at_ m)).data o.t o.n.toNat (min o.k.toNat ((U.pts (nd m (o.at_ m)).data).length-o.n.toNat))) W hat;refine⟨⟨hS.wf',?_⟩,fun r hr=>?_⟩
  ·have hd:=data_le (s:=o.t) (i:=o.n.toNat) (c:=min o.k.toNat ((U.pts (nd m (o.at_ m)).data).length-o.n.toNat)) W (show 2<(nd m (o.at_ m)).kind by omega) (by omega) hx hy ht hle
   have hg:∀m' z,cy_ m' [⟨4,o.at_ m,none,none,none,o.n.toNat,[],(nd m (o.at_ m)).data,false,min o.k.toNat ((U.pts (nd m (o.at_ m)).data).length-o.n.toNat),(U.pts o.t).length⟩] z=db_ (o.at_ m) o.n.toNat (min o.k.toNat ((U.pts (nd m (o.at_ m)).data).length-o.n.toNat)) (U.pts o.t).length z:=fun m' z=>k3_ (m':=m') _ _ _ _ _ z;dsimp only;rw[hg,hg];exact hd
  have e:r=⟨4,o.at_ m,none,none,none,o.n.toNat,[],(nd m (o.at_ m)).data,false,min o.k.toNat ((U.pts (nd m (o.at_ m)).data).length-o.n.toNat),(U.pts o.t).length⟩:=by simpa using hr
  rw[e];have p1:(U.pts (nd m (o.at_ m)).data).length<=100000:=Nat.le_trans (U.cS_ _) (hD _).1;have p2:(U.pts o.t).length<=40:=Nat.le_trans (U.cS_ _) h40;refine⟨hh,(fun e=>by cases e),?_,?_,?_⟩
  ·show o.n.toNat<=_;omega
  ·show min _ _<=_;omega
  show(U.pts o.t).length<=_;omega
 omega
end
end A
end
section
open Go.RowKit Go.Sort
namespace A
open H G R
theorem ox_{g:Nat}{t:TypeId}{w:World}{a0 a1 a2 a3 a4 a5 a6 a7 a8:Value}(hB:Blk g #[a0,a1,a2,a3,a4,a5,a6,a7,a8] t w)(b0 b1 b2 b3 b4 b5 b6 b7 b8:Value) :
  Blk g #[b0,b1,b2,b3,b4,b5,b6,b7,b8] t (((((((((w.setCell ⟨g,0,none⟩ b0).setCell ⟨g,1,none⟩ b1).setCell ⟨g,2,none⟩ b2).setCell ⟨g,3,none⟩ b3).setCell ⟨g,4,none⟩ b4).setCell ⟨g,5,none⟩ b5).setCell ⟨g,6,none⟩ b6).setCell ⟨g,7,none⟩ b7).setCell ⟨g,8,none⟩ b8):=by
 have h9:=((((((((hB.set 0 b0).set 1 b1).set 2 b2).set 3 b3).set 4 b4).set 5 b5).set 6 b6).set 7 b7).set 8 b8;simp only[List.setIfInBounds_toArray,List.set_cons_zero,List.set_cons_succ]at h9;exact h9
theorem lp_{B g:Nat}{u w:World}(h:Below B u w)(hg:B<=g)(b0 b1 b2 b3 b4 b5 b6 b7 b8:Value) :
  Below B u (((((((((w.setCell ⟨g,0,none⟩ b0).setCell ⟨g,1,none⟩ b1).setCell ⟨g,2,none⟩ b2).setCell ⟨g,3,none⟩ b3).setCell ⟨g,4,none⟩ b4).setCell ⟨g,5,none⟩ b5).setCell ⟨g,6,none⟩ b6).setCell ⟨g,7,none⟩ b7).setCell ⟨g,8,none⟩ b8):=
 ((((((((h.setCell (p:=⟨g,0,none⟩) hg b0).setCell (p:=⟨g,1,none⟩) hg b1).setCell (p:=⟨g,2,none⟩) hg b2).setCell (p:=⟨g,3,none⟩) hg b3).setCell (p:=⟨g,4,none⟩) hg b4).setCell (p:=⟨g,5,none⟩) hg b5).setCell (p:=⟨g,6,none⟩) hg b6).setCell (p:=⟨g,7,none⟩) hg b7).setCell (p:=⟨g,8,none⟩) hg b8
def In(m:aa_)(root x:Nat):Prop:=has m x=true/\contains m root x=true
theorem In.kid{m:aa_}(W:WF m){root h x:Nat}(hh:In m root h)(hx:x∈(nd m h).kids):In m root x:=
 ⟨f7_ W hh.1 hx,by rw[W.contains_step (W.kid h x hx).2,hh.2,Bool.or_true]⟩
theorem In.up{m:aa_}(W:WF m){root x:Nat}(hx:In m root x)(hne:x≠root):∃p,(nd m x).parent=some p/\In m root p/\depth m p<depth m x:=by
 cases hp:(nd m x).parent with
 |none=>
  have h:=hx.2;rw[W.contains_root hp]at h;exact absurd (beq_iff_eq.1 h).symm hne
 |some p=>
  have h:=hx.2;rw[W.contains_step hp]at h;have hc:contains m root p=true:=by
   rw[Bool.or_eq_true]at h
   rcases h with h|h
   ·exact absurd (beq_iff_eq.1 h).symm hne
   exact h
  refine⟨p,rfl,⟨?_,hc⟩,by rw[W.depth_step hp];omega⟩;have h1:=hx.1;unfold G.has at h1 ⊢;rw[<-W.gone x p hp];exact h1
theorem In.next{m:aa_}(W:WF m){root x y:Nat}(hx:In m root x)(hne:x≠root)(hy:aq_ m x=some y):In m root y:=by
 obtain⟨p,hp,hI,_⟩:=hx.up W hne;unfold aq_ at hy;rw[hp]at hy;exact hI.kid W (List.mem_of_getElem? hy)
theorem mG_{T:am_}{pos:Nat->Nat}(x:Nat):(hd T pos x==0)=false/\(hd T pos x != 0)=true/\¬hd T pos x=0:=by
 have h:=aP_ (T:=T) (pos:=pos) x;have h2:¬hd T pos x=0:=by omega
 exact⟨bn_ h2,bne_iff_ne.2 h2,h2⟩
noncomputable def m7_ (T:am_) (m:aa_) (pos:Nat->Nat) (v:Value):Nat:=by
 classical
 exact if h:∃x,v=.int .i64 (hd T pos x)/\has m x=true then depth m h.choose else 0
theorem m6_{T:am_}{m:aa_}{pos:Nat->Nat}(F:Fits T m pos){x:Nat}(hx:has m x=true):m7_ T m pos (.int .i64 (hd T pos x))=depth m x:=by
 unfold m7_;have h:∃y,Value.int .i64 (hd T pos x)=.int .i64 (hd T pos y)/\has m y=true:=⟨x,rfl,hx⟩;rw[dif_pos h];have h2:=h.choose_spec;have e:hd T pos x=hd T pos h.choose:=by
  have h3:=h2.1;injection h3
 rw[<-dJ_ F hx h2.2 e]
def FolIs(T:am_)(m:aa_)(pos:Nat->Nat)(root:Nat)(z:Int):Prop:=z=0\/∃x,z=hd T pos x/\In m root x
theorem k5_(T:am_)(m:aa_)(pos:Nat->Nat)(root h:Nat)(w:World)(hT:ag_ w T m pos)(hr:has m root=true)(hh:In m root h)(hA:∀i,(nd m i).attrs.length<=100000) :
  Calls Tryz.prog 82 #[.pointer (some ⟨T.tb,0,none⟩),.int .i64 (hd T pos root),.int .i64 (hd T pos h)] w fun e w'=>∃z,e=.returned (.int .i64 z)/\Below w.heap.size w w'/\FolIs T m pos root z:=by
 have HB0:=hi_ (Below.refl w.heap.size w);have HF:=hi_ hT.fits;have QN:=hi_ (fun x W (hW:Below w.heap.size w W) (hx:has m x=true)=>l3_ T m pos x W (hT.below hW) hx (hA x));have Q:=hi_ (QN.o h w (br_) hh.1);have HH:=hi_ hh;have HR:=hi_ hr;obtain⟨zr,hzr⟩:∃z,z=hd T pos root:=⟨_,rfl⟩;have HZr:=hi_ hzr;rw[<-hzr];clear hzr;have HI:=hi_ (fun(i j:Nat) (hi:has m i=true) (hj:has m j=true) (e:hd T pos i=hd T pos j)=>dJ_ hT.fits hi hj e);obtain⟨D,HD⟩:∃D:Value->Nat,Hd (∀x,has m x=true->D (.int .i64 (hd T pos x))=depth m x):=⟨m7_ T m pos,hi_ (fun x hx=>m6_ hT.fits hx)⟩;unfold dF_ at QN Q;clear hT hA hr hh
 go_enter Tryz.func82,Tryz.ntmps82
 go_wp2_with fail
 refine Q.o.mono ?_;rintro e w1 ⟨nv,rfl,hb1,hrow⟩;obtain⟨bo,bcap,rfl⟩:=ab_.slice hrow;clear hrow;have HB1:=hi_ (HB0.o.trans hb1);clear hb1 Q;go_upto_region 2 with fail
 obtain⟨w2,hw2,HBx⟩:∃w2,w2=w1.alloc (.cells #[.int .i64 ((T.sl (pos h)).kind:Nat),.string ⟨(T.sl (pos h)).name.toArray⟩,.slice bo (nd m h).attrs.length bcap,.string ⟨(T.sl (pos h)).data.toArray⟩,.int .i64 (T.sl (pos h)).parent,.int .i64 (T.sl (pos h)).first,.int .i64 (T.sl (pos h)).last,.int .i64 (T.sl (pos h)).prev,.int .i64 (T.sl (pos h)).next] 126)/\Hd (Blk w1.heap.size #[.int .i64 ((T.sl (pos h)).kind:Nat),.string ⟨(T.sl (pos h)).name.toArray⟩,.slice bo (nd m h).attrs.length bcap,.string ⟨(T.sl (pos h)).data.toArray⟩,.int .i64 (T.sl (pos h)).parent,.int .i64 (T.sl (pos h)).first,.int .i64 (T.sl (pos h)).last,.int .i64 (T.sl (pos h)).prev,.int .i64 (T.sl (pos h)).next] 126 w2):=⟨_,rfl,hi_ (Blk.new w1 _ _)⟩;rw[<-hw2];have hb2:Below w1.heap.size w1 w2:=by rw[hw2];exact(br_).alloc (nl_) _
 have HB2:=bt_ HB1 hb2;clear hw2 hb2;have hfst:=HF.o.first h HH.o.1;have HLo:=hi_ (show w.heap.size<=w1.heap.size from HB1.o.size);have k5:w2.cell? ⟨w1.heap.size,5,none⟩=some (.int .i64 (T.sl (pos h)).first):=(ae_ HBx.o).1 5;have kl:=HBx.o.lt;rw[hfst]at k5
 cases hk:(nd m h).kids.head? with
 |some x=>
  have hx:In m root x:=HH.o.kid HF.o.wf (List.mem_of_mem_head? hk);have HX:=hi_ hx;obtain⟨z1,z2,z3⟩:=mG_ (T:=T) (pos:=pos) x;rw[hk]at k5;have k5':w2.cell? ⟨w1.heap.size,5,none⟩=some (.int .i64 (hd T pos x)):=k5;clear k5 hk hfst hx;go_wp2_with fail
  go_ret
  exact⟨hd T pos x,rfl,HB2.o,Or.inr ⟨x,rfl,HX.o⟩⟩
 |none=>
  rw[hk]at k5;have k5':w2.cell? ⟨w1.heap.size,5,none⟩=some (.int .i64 0):=k5;clear k5 hk hfst;go_wp2_with fail
  clear k5' kl;generalize T.sl (pos h)=sh at *;generalize (nd m h).attrs.length=nh at *
  go_loopw [2] (fun v2 wr=>∃x:Nat,v2=.int .i64 (hd T pos x)/\Hd (In m root x)/\Hd (Below w.heap.size w wr)/\Hd (∃a0 a1 a2 a3 a4 a5 a6 a7 a8:Value,Blk w1.heap.size #[a0,a1,a2,a3,a4,a5,a6,a7,a8] 126 wr)) (fun v2 _=>D v2)
  case atStart=>exact⟨h,rfl,HH,HB2,hi_ ⟨_,_,_,_,_,_,_,_,_,HBx.o⟩⟩
  obtain⟨x,rfl,HX,HB,HBk⟩:=hrel;obtain⟨n1,n2,n3⟩:=mG_ (T:=T) (pos:=pos) x
  by_cases hxr:x=root
  ·have e1:(hd T pos x==zr)=true:=by rw[hxr,HZr.o];exact beq_self_eq_true _
   have e2:(hd T pos x != zr)=false:=by rw[hxr,HZr.o];simp
   clear hxr;generalize hd T pos x=zx at *;go_wp2_with fail
   go_ret
   exact⟨0,rfl,HB.o,Or.inl rfl⟩
  have e3:¬hd T pos x=zr:=fun e=>hxr (HI.o x root HX.o.1 HR.o (by rw[e,HZr.o]));have e1:(hd T pos x==zr)=false:=bn_ e3;have e2:(hd T pos x != zr)=true:=bne_iff_ne.2 e3;have Qx:=hi_ (QN.o x wr HB.o HX.o.1);obtain⟨p,hp,hIp,hdp⟩:=HX.o.up HF.o.wf hxr;have HIp:=hi_ hIp;have HDp:=hi_ hdp;have hnx:=HF.o.next x HX.o.1;have hpr:=HF.o.parent x HX.o.1;rw[hp]at hpr;have HPR:=hi_ (show(T.sl (pos x)).parent=hd T pos p from hpr);have HNXT:=hi_ hnx;have HNx:=hi_ (fun(y:Nat) (hy:aq_ m x=some y)=>HX.o.next HF.o.wf hxr hy);have HDx:=hi_ (HD.o x HX.o.1);have HDp2:=hi_ (HD.o p HIp.o.1);clear hxr hp hIp hdp hpr hnx n1 n2;generalize hzp:hd T pos p=zp at *;have HZp:=hi_ hzp;clear hzp;generalize hd T pos x=zx at *;generalize T.sl (pos x)=sx at *;go_wp2_with fail
  refine Qx.o.mono ?_;rintro e w3 ⟨nv,rfl,hb3,hrow⟩;obtain⟨xo,xcap,rfl⟩:=ab_.slice hrow;clear hrow;generalize (nd m x).attrs.length=nx at *;obtain⟨a0,a1,a2,a3,a4,a5,a6,a7,a8,hbk⟩:=HBk.o;have HBk3:=hi_ (hbk.below hb3);have HB3:=bt_ HB hb3;clear hb3 Qx hbk HBk;obtain⟨hc,hf⟩:=ae_ HBk3.o;have kl:=HBk3.o.lt;have z0:=hc 0;have f0:=hf 0 (by show 0<9;omega);have z1:=hc 1;have f1:=hf 1 (by show 1<9;omega);have z2:=hc 2;have f2:=hf 2 (by show 2<9;omega);have z3:=hc 3;have f3:=hf 3 (by show 3<9;omega);have z4:=hc 4;have f4:=hf 4 (by show 4<9;omega);have z5:=hc 5;have f5:=hf 5 (by show 5<9;omega);have z6:=hc 6;have f6:=hf 6 (by show 6<9;omega);have z7:=hc 7;have f7:=hf 7 (by show 7<9;omega);have z8:=hc 8;have f8:=hf 8 (by show 8<9;omega);clear hc hf
  go_upto_region 6 with fail
  have HBk4:=hi_ (ox_ HBk3.o (.int .i64 sx.kind) (.string ⟨sx.name.toArray⟩) (.slice xo nx xcap) (.string ⟨sx.data.toArray⟩) (.int .i64 sx.parent) (.int .i64 sx.first) (.int .i64 sx.last) (.int .i64 sx.prev) (.int .i64 sx.next));have HB4:=hi_ (lp_ HB3.o (g:=w1.heap.size) HLo.o (.int .i64 sx.kind) (.string ⟨sx.name.toArray⟩) (.slice xo nx xcap) (.string ⟨sx.data.toArray⟩) (.int .i64 sx.parent) (.int .i64 sx.first) (.int .i64 sx.last) (.int .i64 sx.prev) (.int .i64 sx.next));generalize World.setCell _ _ _=w4 at *;clear kl HBk3 HB3 z0 z1 z2 z3 z4 z5 z6 z7 z8 f0 f1 f2 f3 f4 f5 f6 f7 f8;have k8:w4.cell? ⟨w1.heap.size,8,none⟩=some (.int .i64 sx.next):=(ae_ HBk4.o).1 8;have k4:w4.cell? ⟨w1.heap.size,4,none⟩=some (.int .i64 sx.parent):=(ae_ HBk4.o).1 4;have kl:=HBk4.o.lt;rw[HNXT.o]at k8;rw[HPR.o]at k4
  have HBk5:Hd (∃a0 a1 a2 a3 a4 a5 a6 a7 a8:Value,Blk w1.heap.size #[a0,a1,a2,a3,a4,a5,a6,a7,a8] 126 w4):=hi_ ⟨_,_,_,_,_,_,_,_,_,HBk4.o⟩;clear HNXT HPR HBk4
  cases hns:aq_ m x with
  |some y=>
   have HY:=hi_ (HNx.o y hns);obtain⟨y1,y2,y3⟩:=mG_ (T:=T) (pos:=pos) y;rw[hns]at k8;have k8':w4.cell? ⟨w1.heap.size,8,none⟩=some (.int .i64 (hd T pos y)):=k8;clear k8 hns;generalize hzy:hd T pos y=zy at *;have HZy:=hi_ hzy;clear hzy;go_wp2_with fail
   go_ret
   exact⟨zy,rfl,HB4.o,Or.inr ⟨y,HZy.o.symm,HY.o⟩⟩
  |none=>
   rw[hns]at k8;have k8':w4.cell? ⟨w1.heap.size,8,none⟩=some (.int .i64 0):=k8;clear k8 hns;go_wp2_with fail
   refine⟨⟨p,by rw[HZp.o],HIp,HB4,HBk5⟩,?_⟩;rw[HDp2.o,HDx.o];exact HDp.o
end A
end
section
namespace G
theorem fy_{m:aa_}(W:WF m){h q root x:Nat}(hq:(nd m h).parent=some q)(hx:contains m h x=false):contains (cut m h q) root x=contains m root x:=by
 unfold contains;rw[nm_ W hq x hx]
theorem fx_{m:aa_}{p h i:Nat}(C:bN_ m p h i)(root x:Nat):contains m h x=false->contains (put m p h i) root x=contains m root x:=by
 have W:=C.wf;have W':=C.wf';refine W.up_ind (P:=fun x=>contains m h x=false->contains (put m p h i) root x=contains m root x) (fun x hx hc=>?_) (fun x q hx ih hc=>?_) x
 ·have hne:x≠h:=fun e=>by subst e;rw[W.contains_self]at hc;cases hc
  rw[W.contains_root hx,W'.contains_root (by rw[C.parent,if_neg hne];exact hx)]
 have hne:x≠h:=fun e=>by subst e;rw[W.contains_self]at hc;cases hc
 rw[W.contains_step hx,Bool.or_eq_false_iff]at hc;rw[W.contains_step hx,W'.contains_step (by rw[C.parent,if_neg hne];exact hx),ih hc.2]
theorem go_{m:aa_}(W:WF m){h q root:Nat}(hq:(nd m h).parent=some q)(hr:contains m h root=true)(htr:contains m root q=true->contains m h q=true)(x:Nat):contains m root x=true->contains (cut m h q) root x=true:=by
 have W':=W.cut hq;obtain⟨h1,h2⟩:=W.lt hq;have hP:∀j,(nd (cut m h q) j).parent=if j=h then none else(nd m j).parent:=fun j=>by rw[bT_ h1 h2]
 refine W.up_ind (P:=fun x=>contains m root x=true->contains (cut m h q) root x=true) (fun x hx hc=>?_) (fun x p hx ih hc=>?_) x
 ·rw[W.contains_root hx]at hc
  rw[beq_iff_eq.1 hc];exact W'.contains_self _
 rw[W.contains_step hx,Bool.or_eq_true]at hc
 rcases hc with hc|hc
 ·rw[beq_iff_eq.1 hc]
  exact W'.contains_self _
 by_cases e:x=h
 ·subst e
  rw[hq]at hx;injection hx with hx
  subst hx;have h3:=htr hc;rw[W.parent_out hq]at h3
  cases h3
 rw[W'.contains_step (by rw[hP,if_neg e];exact hx),ih hc,Bool.or_true]
end G
end
section
namespace G
theorem hQ_{m m':aa_}(h:∀i,(nd m' i).parent=(nd m i).parent):∀(n i:Nat),up m' n i=up m n i
 |0,_=>rfl
 |n+1,i=>by
  cases hp:(nd m i).parent with
  |none=>rw[cX_ hp,cX_ ((h i).trans hp)]
  |some p=>rw[cW_ hp,cW_ ((h i).trans hp),hQ_ h n p]
theorem gn_{m m':aa_}(h:∀i,(nd m' i).parent=(nd m i).parent)(a b:Nat):contains m' a b=contains m a b:=by unfold contains anc;rw[hQ_ h]
theorem WF.contains_trans{m:aa_}(W:WF m){a b:Nat}(h:contains m a b=true)(c:Nat):contains m b c=true->contains m a c=true:=by
 refine W.up_ind (P:=fun c=>contains m b c=true->contains m a c=true) (fun c hc h2=>?_) (fun c p hc ih h2=>?_) c
 ·rw[W.contains_root hc]at h2
  rw[<-beq_iff_eq.1 h2];exact h
 rw[W.contains_step hc,Bool.or_eq_true]at h2
 rcases h2 with h2|h2
 ·rw[<-beq_iff_eq.1 h2];exact h
 rw[W.contains_step hc,ih h2,Bool.or_true]
theorem WF.contains_two{m:aa_}(W:WF m){a b:Nat}(c:Nat):contains m a c=true->contains m b c=true->contains m a b=true\/contains m b a=true:=by
 refine W.up_ind (P:=fun c=>contains m a c=true->contains m b c=true->contains m a b=true\/contains m b a=true) (fun c hc h1 h2=>?_) (fun c p hc ih h1 h2=>?_) c
 ·rw[W.contains_root hc]at h1 h2
  rw[beq_iff_eq.1 h1,beq_iff_eq.1 h2];exact Or.inl (W.contains_self _)
 have g1:=h1;have g2:=h2;rw[W.contains_step hc,Bool.or_eq_true]at h1 h2
 rcases h1 with h1|h1
 ·rw[beq_iff_eq.1 h1];exact Or.inr g2
 rcases h2 with h2|h2
 ·rw[beq_iff_eq.1 h2];exact Or.inl g1
 exact ih h1 h2
def c5_(m':aa_)(r:Rec)(root x y:Nat):Prop:=
 if r.kind=2/\∃h,r.node=some h/\contains m' h x=true/\contains m' h root=false then
  y=r.target\/∃p h,r.prev=some p/\r.node=some h/\contains m' p y=true/\contains m' h y=false
 else y=x
def cE_(m':aa_):List Rec->Nat->Nat->Nat->Prop
 |[],_,x,y=>y=x
 |r :: rs,root,x,y=>∃z,c5_ m' r root x z/\cE_ m' rs root z y
theorem f5_{m':aa_}{r:Rec}(hk:r.kind≠2){root x y:Nat}(h:c5_ m' r root x y):y=x:=by
 unfold c5_ at h
 rwa [if_neg (fun e=>hk e.1)]at h
theorem fm_{m':aa_}:∀{rs:List Rec},(∀r∈rs,r.kind≠2)->∀{root x y:Nat},cE_ m' rs root x y->y=x
 |[],_,_,_,_,h=>h
 |r :: rs,hr,root,x,y,h=>by
  obtain⟨z,h1,h2⟩:=h;rw[fm_ (fun r' h'=>hr r' (List.mem_cons_of_mem _ h')) h2];exact f5_ (hr r List.mem_cons_self) h1
theorem eN_{m':aa_}{r:Rec}:∀{rs:List Rec} {root x y z:Nat},cE_ m' rs root x y->c5_ m' r root y z->cE_ m' (rs++[r]) root x z
 |[],_,_,_,_,h,h2=>by
  obtain rfl:=h;exact⟨_,h2,rfl⟩
 |r0 :: rs,root,x,y,z,h,h2=>by
  obtain⟨u,h3,h4⟩:=h;exact⟨u,h3,eN_ h4 h2⟩
structure Left(m m':aa_)(h q:Nat):Prop where
 wf':WF m'
 same:∀x,contains m' h x=contains m h x
 out:∀root x,contains m h x=false->contains m' root x=contains m root x
 inn:∀root x,contains m h root=true->contains m root x=true->contains m' root x=true
theorem j1_{m:aa_}(W:WF m){h q:Nat}(hq:(nd m h).parent=some q):Left m (cut m h q) h q:=
 ⟨W.cut hq,de_ W hq,fun root x hx=>fy_ W hq hx,fun root x hr hx=>go_ W hq hr (fun h2=>W.contains_trans hr _ h2) x hx⟩
theorem dz_{m:aa_}{p h i:Nat}(C:bN_ m p h i)(root x:Nat):contains m root x=true->contains (put m p h i) root x=true:=by
 have W:=C.wf;have W':=C.wf';refine W.up_ind (P:=fun x=>contains m root x=true->contains (put m p h i) root x=true) (fun x hx hc=>?_) (fun x q hx ih hc=>?_) x
 ·rw[W.contains_root hx]at hc
  rw[beq_iff_eq.1 hc];exact W'.contains_self _
 have hne:x≠h:=fun e=>by rw[e,C.root]at hx;cases hx
 rw[W.contains_step hx,Bool.or_eq_true]at hc
 rcases hc with hc|hc
 ·rw[beq_iff_eq.1 hc];exact W'.contains_self _
 rw[W'.contains_step (by rw[C.parent,if_neg hne];exact hx),ih hc,Bool.or_true]
theorem oa_{m m1:aa_}{p h i q:Nat}(L:Left m m1 h q)(C:bN_ m1 p h i):Left m (put m1 p h i) h q:=
 ⟨C.wf',fun x=>(fj_ C x).trans (L.same x),fun root x hx=>(fx_ C root x ((L.same x).trans hx)).trans (L.out root x hx),fun root x hr hx=>dz_ C root x (L.inn root x hr hx)⟩
theorem ib_{m m':aa_}(W:WF m){h q:Nat}(hq:(nd m h).parent=some q)(L:Left m m' h q){root x y:Nat}(hx:contains m root x=true)(hy:c5_ m' (bm_ m h q) root x y):contains m' root y=true:=by
 unfold c5_ at hy
 by_cases c:contains m h x=true/\contains m h root=false
 ·rw[if_pos ⟨rfl,h,rfl,(L.same _).trans c.1,(L.same _).trans c.2⟩]at hy
  have h1:contains m root h=true:=by
   rcases W.contains_two x hx c.1 with h1|h1
   ·exact h1
   rw[c.2]at h1;cases h1
  have hne:root≠h:=fun e=>by have h2:=c.2;rw[e,W.contains_self]at h2;cases h2
  rw[W.contains_step hq,Bool.or_eq_true]at h1;have hrq:contains m root q=true:=h1.resolve_left (fun e=>hne (beq_iff_eq.1 e));have hqo:=W.parent_out hq
  rcases hy with hy|⟨p,h',hp,hh,hpy,hhy⟩
  ·rw[hy]
   exact(L.out root q hqo).trans hrq
  have hh:some h=some h':=hh;injection hh with hh
  subst hh;have hpk:p∈(nd m q).kids:=A.hu_ hp;have hpp:=(W.kid q p hpk).2;have hidx:(nd m q).kids[(nd m q).kids.idxOf h]?=some h:=dB_ (W.par h q hq).2;have hph:p≠h:=fun e=>by
   have hp':dq_ (nd m q).kids ((nd m q).kids.idxOf h)=some p:=hp;unfold dq_ at hp'
   split at hp'
   ·cases hp'
   rename_i hz
   have:=idx_at (W.nodup q) hp';rw[e]at this;omega
  have hpo:contains m h p=false:=by
   rw[W.contains_step hpp,hqo,Bool.or_false];exact bn_ (fun e=>hph e.symm)
  have h2:contains m' root p=true:=by
   rw[L.out root p hpo,W.contains_step hpp,hrq,Bool.or_true]
  exact L.wf'.contains_trans h2 _ hpy
 rw[if_neg (by
  rintro⟨_,h',e,c1,c2⟩;injection e with e
  subst e;rw[L.same]at c1 c2;exact c ⟨c1,c2⟩)]at hy
 rw[hy]
 cases h1:contains m h x with
 |false=>exact(L.out root x h1).trans hx
 |true=>
  refine L.inn root x ?_ hx
  cases h2:contains m h root with
  |true=>rfl
  |false=>exact absurd ⟨h1,h2⟩ c
end G
namespace A
open G
theorem kL_{m:aa_}(W:WF m){o:G.Op}{lim:Option Nat}(hk:3<=o.kind % 10/\o.kind % 10<8){root x y:Nat}(hx:contains m root x=true)(h:cE_ (G.step lim m o).2.2 (G.step lim m o).1 root x y):contains (G.step lim m o).2.2 root y=true:=by
 have h0:∀(m':aa_) (rs:List Rec),(∀i,(nd m' i).parent=(nd m i).parent)->(∀r∈rs,r.kind≠2)->cE_ m' rs root x y->contains m' root y=true:=fun m' rs hp hr hl=>by
  rw[fm_ hr hl,gn_ hp];exact hx
 have hS:∀(m':aa_) (nm old:G.Bytes) (had:Bool) (hh:Nat) ,(∀i,(nd m' i).parent=(nd m i).parent)->cE_ m' [aM_ hh nm old had] root x y->contains m' root y=true:=fun m' nm old had hh hp hl=>
  h0 m' _ hp (fun r hr=>by obtain rfl:r=aM_ hh nm old had:=(by simpa using hr);exact(by decide:(3:Nat)≠2)) hl
 have hu:∀(i:Nat) (f:G.Node->G.Node),(∀z,(f z).parent=z.parent)->∀j,(nd (upd m i f) j).parent=(nd m j).parent:=fun i f hf j=>by
  rcases Nat.lt_or_ge i m.length with hi|hi
  ·rw[cn_ hi];split
   ·exact hf _
   rfl
  rw[em_ hi]
 have hn:cE_ m [] root x y->contains m root y=true:=fun hl=>h0 m [] (fun _=>rfl) (fun r hr=>by cases hr) hl;have hpos:=W.doc.1;have hat:o.at_ m<m.length:=Nat.mod_lt _ hpos;have hbt:o.bt m<m.length:=Nat.mod_lt _ hpos
 revert h
 unfold G.step;rw[if_neg (by omega)]
 split
 ·split
  ·rename_i hh
   simp only[Bool.and_eq_true]at hh;have hg:(nd m (o.at_ m)).gone=(nd m (o.bt m)).gone:=by
    have h1:=hh.1;have h2:=hh.2.1;unfold G.has at h1 h2;simp only[Bool.not_eq_true']at h1 h2;rw[h1,h2]
   by_cases hok:(G.insert m (o.bt m) (o.at_ m) (o.ct m)).2.1=0
   ·obtain⟨C,e⟩:=g5_ W hat hbt hg hok
    rw[e];dsimp only;intro h
    cases hq:(nd m (o.at_ m)).parent with
    |none=>
     have e1:out m (o.at_ m)=m:=by unfold out;rw[hq]
     have e2:a6_ m (o.at_ m)=[]:=by unfold a6_;rw[hq]
     rw[e1]at C h ⊢;rw[e2]at h;obtain⟨z,h1,h2⟩:=h;obtain rfl:y=z:=h2;rw[f5_ (by exact(by decide:(1:Nat)≠2)) h1];exact dz_ C root x hx
    |some q=>
     have e1:out m (o.at_ m)=cut m (o.at_ m) q:=by unfold out;rw[hq]
     have e2:a6_ m (o.at_ m)=[bm_ m (o.at_ m) q]:=by unfold a6_;rw[hq]
     rw[e1]at C h ⊢;rw[e2]at h;obtain⟨z,h1,u,h2,h3⟩:=h;obtain rfl:y=u:=h3;obtain rfl:=f5_ (by exact(by decide:(1:Nat)≠2)) h2;exact ib_ W hq (oa_ (j1_ W hq) C) hx h1
   intro h;have e:(G.insert m (o.bt m) (o.at_ m) (o.ct m)).1=[]/\(G.insert m (o.bt m) (o.at_ m) (o.ct m)).2.2=m:=by
    unfold G.insert at hok ⊢
    split
    ·exact⟨rfl,rfl⟩
    split
    ·exact⟨rfl,rfl⟩
    rename_i c1 c2
    rw[if_neg c1,if_neg c2]at hok;exact absurd rfl hok
   rw[e.1,e.2]at h;rw[e.2];exact hn h
  exact hn
 split
 ·exact hn
 split
 ·unfold G.bd_
  split
  ·exact hn
  split
  ·exact hn
  rename_i q hq
  intro h;obtain⟨z,h1,h2⟩:=h;obtain rfl:y=z:=h2;exact ib_ W hq (j1_ W hq) hx h1
 split
 ·unfold G.az_
  split
  ·exact hn
  split
  ·exact hn
  split
  ·exact hS _ _ _ _ _ (hu _ _ (fun z=>rfl))
  split
  ·exact hn
  exact hS _ _ _ _ _ (hu _ _ (fun z=>rfl))
 split
 ·unfold G.ax_
  split
  ·exact hn
  split
  ·exact hn
  exact hS _ _ _ _ _ (hu _ _ (fun z=>rfl))
 split
 ·unfold G.replace
  split
  ·exact hn
  split
  ·exact hn
  refine h0 _ _ (hu _ _ (fun z=>rfl)) (fun r hr=>?_);rw[List.mem_singleton.1 hr];exact(by decide:(4:Nat)≠2)
 omega
end A
end
section
open Go.RowKit Go.Sort
namespace A
open H G R
theorem an_.iput{w:World}{S:bh_}(h:an_ w S){g cap i k:Nat}(hv:S.iv=.slice (some ⟨g,0,none⟩) S.its.length cap)(hi:i<S.its.length)(hk:k<4)(u:Value)(f:It->It)(hf:cJ_ (f S.its[i])=(cJ_ S.its[i]).set k u) :
  an_ (w.setCell ⟨g,i*4+k,none⟩ u) { S with its:=S.its.modify i f }:=by
 have hr:=h.itrow;rw[hv]at hr;have hg:(Value.slice (some ⟨g,0,none⟩) S.its.length cap).ownBlock=some g:=rfl;have n1:S.sb≠g:=fun e=>ai_ hr h.blk (by decide) (by rw[hg,e]);have n2:S.rv.ownBlock≠some g:=fun e=>aQ_ h.rows hr (by decide) e hg;refine⟨Blk.far h.blk n1 _ _,au_ h.rows n2 _ _,?_,by show _/\(S.its.modify i f).length<=_;rw[List.length_modify];exact h.few,h.lastb,h.bb⟩;show ab_ cJ_ S.B _ 4 _ S.iv (S.its.modify i f);have h9:=ab_.store cc_ hr hi hk u f hf;rw[List.length_modify]at h9;rw[hv];exact h9
theorem gT_{w:World}{S:bh_}{g cap i:Nat}(h:an_ w S)(hv:S.iv=.slice (some ⟨g,0,none⟩) S.its.length cap)(hi:i<S.its.length) :
  (w.cell? ⟨g,i*4+1,none⟩=some (.int .i64 S.its[i].root)/\w.cell? ⟨g,i*4+2,none⟩=some (.int .i64 S.its[i].ref)/\w.cell? ⟨g,i*4+3,none⟩=some (.bool S.its[i].before)) ∧
  (w.frozen? ⟨g,i*4+2,none⟩=false/\w.frozen? ⟨g,i*4+3,none⟩=false/\g<w.heap.size):=by
 have hr:=h.itrow;rw[hv]at hr;have c:=fun k (hk:k<4)=>ab_.cell cc_ hr hi (k:=k) hk;exact⟨⟨(c 1 (by omega)).1,(c 2 (by omega)).1,(c 3 (by omega)).1⟩,(c 2 (by omega)).2,(c 3 (by omega)).2,(ad_ hr).1⟩
theorem gi_{S:bh_}{g cap:Nat}(hv:S.iv=.slice (some ⟨g,0,none⟩) S.its.length cap):S.foot g:=Or.inr (Or.inr (by rw[hv];rfl))
def a4_(b:Bool)(x:It):It:={ x with before:=b }
def a5_(z:Int)(x:It):It:={ x with ref:=z }
theorem gY_{w:World}{S:bh_}{g cap i:Nat}(h:an_ w S)(hv:S.iv=.slice (some ⟨g,0,none⟩) S.its.length cap)(hi:i<S.its.length)(b:Bool) :
  an_ (w.setCell ⟨g,i*4+3,none⟩ (.bool b)) { S with its:=S.its.modify i (a4_ b) }:=h.iput hv hi (k:=3) (by omega) (.bool b) (a4_ b) rfl
theorem i2_{w:World}{S:bh_}{g cap i:Nat}(h:an_ w S)(hv:S.iv=.slice (some ⟨g,0,none⟩) S.its.length cap)(hi:i<S.its.length)(z:Int) :
  an_ (w.setCell ⟨g,i*4+2,none⟩ (.int .i64 z)) { S with its:=S.its.modify i (a5_ z) }:=h.iput hv hi (k:=2) (by omega) (.int .i64 z) (a5_ z) rfl
end A
end
section
namespace G
structure Grown(m m':aa_):Prop where
 wf':WF m'
 len:m.length<=m'.length
 old:∀i,i<m.length->nd m' i=nd m i
section
variable {m m':aa_} (W:WF m) (g:Grown m m')
include W g
theorem Grown.up(n:Nat):∀i,i<m.length->up m' n i=up m n i:=by
 induction n with
 |zero=>exact fun i hi=>rfl
 |succ n ih=>
  intro i hi;have e:=congrArg Node.parent (g.old i hi)
  cases hp:(nd m i).parent with
  |none=>rw[cX_ hp,cX_ (e.trans hp)]
  |some p=>rw[cW_ hp,cW_ (e.trans hp),ih p (W.lt hp).2]
theorem Grown.anc{i:Nat}(hi:i<m.length):anc m' i=anc m i:=g.up W 128 i hi
theorem Grown.contains(a:Nat){b:Nat}(hb:b<m.length):contains m' a b=contains m a b:=by unfold G.contains;rw[g.anc W hb]
theorem Grown.top{i:Nat}(hi:i<m.length):top m' i=top m i:=by unfold G.top;rw[g.anc W hi]
theorem Grown.pidx(n:Nat):∀i,i<m.length->en_ m' n i=en_ m n i:=by
 induction n with
 |zero=>exact fun i hi=>rfl
 |succ n ih=>
  intro i hi;have e:=congrArg Node.parent (g.old i hi);rw[en_,en_,e]
  cases hp:(nd m i).parent with
  |none=>rfl
  |some p=>
   have hl:=(W.lt hp).2;dsimp only;rw[ih p hl,g.old p hl]
theorem Grown.code{q:Nat×Nat}(hq:q.1<m.length):cg_ m' q=cg_ m q:=by
 have e:G.pidx m' q.1=G.pidx m q.1:=g.pidx W 128 q.1 hq;unfold cg_;rw[e]
theorem Grown.lcmp{a b:Nat×Nat}(ha:a.1<m.length)(hb:b.1<m.length)(ht:G.top m a.1=G.top m b.1):G.lcmp m' a b=G.lcmp m a b:=by
 rw[bV_ W ht,bV_ g.wf' (by rw[g.top W ha,g.top W hb,ht]),g.code W ha,g.code W hb]
end
theorem Grown.has{m m':aa_}(g:Grown m m'){i:Nat}(h:has m i=true):has m' i=true:=by
 unfold G.has at h ⊢;rw[g.old i (aR_ h)];exact h
theorem Grown.size{m m':aa_}(g:Grown m m'){i:Nat}(hi:i<m.length):sizeOf m' i=sizeOf m i:=by
 unfold G.sizeOf;rw[g.old i hi]
theorem k0_{m:aa_}(W:WF m):Grown m m:=⟨W,nl_,fun _ _=>rfl⟩
theorem kZ_{m:aa_}(W:WF m){o:Op}{lim:Option Nat}(hk:o.kind % 10<3\/o.kind % 10=8):Grown m (step lim m o).2.2/\(step lim m o).1=[]:=by
 have hpos:=W.doc.1;have hat:o.at_ m<m.length:=Nat.mod_lt _ hpos;have h0:=k0_ W;unfold step
 by_cases k0:o.kind % 10<3
 ·rw[if_pos k0]
  cases hmk:make m (2+o.kind % 10) o.s o.t o.al with
  |none=>exact⟨h0,rfl⟩
  |some m'=>
   refine⟨?_,rfl⟩;show Grown m m';unfold make at hmk
   split at hmk
   ·split at hmk
    ·injection hmk with hmk
     subst hmk;exact⟨W.make rfl rfl (by exact(by decide:2<=2/\2<=4)),by simp,fun i hi=>bx_ hi⟩
    cases hmk
   injection hmk with hmk
   subst hmk;exact⟨W.make rfl rfl (by show 2<=2+o.kind % 10/\2+o.kind % 10<=4;omega),by simp,fun i hi=>bx_ hi⟩
 have k8:o.kind % 10=8:=by omega
 rw[if_neg k0,if_neg (by omega)]
 split
 ·exact⟨h0,rfl⟩
 rw[if_neg (show ¬o.kind % 10=4 by omega),if_neg (show ¬o.kind % 10=5 by omega),if_neg (show ¬o.kind % 10=6 by omega),if_neg (show ¬o.kind % 10=7 by omega)];refine⟨?_,rfl⟩;show Grown m (aU_ m (o.at_ m) _).2;unfold aU_
 split
 ·exact h0
 rename_i hk1
 have h1:0<o.at_ m:=by
  rcases Nat.eq_zero_or_pos (o.at_ m)with e|e
  ·rw[e]at hk1;exact absurd W.doc.2.1 hk1
  exact e
 have C:=WF.copyT 128 W (decide (0<o.n)) hat h1 (W.low 128 _ (by have:=W.depth_pos (o.at_ m);omega));exact⟨C.wf,Nat.le_of_lt C.more,C.old⟩
end G
end
section
open Go.RowKit Go.Sort
namespace A
open H G R
theorem move_(T:am_)(m:aa_)(pos:Nat->Nat)(S:bh_)(id:Int)(i r q:Nat)(w:World)(hT:ag_ w T m pos)(hS:an_ w S)(hfi:gH_ S.its id=some i)(hi:i<S.its.length)(hrt:S.its[i].root=hd T pos r)(hrf:S.its[i].ref=hd T pos q)(bf:Bool)(hbf:S.its[i].before=bf)(hr:has m r=true)(hq:In m r q)(hA:∀i,(nd m i).attrs.length<=100000) :
  Calls Tryz.prog 81 #[.pointer (some ⟨S.sb,0,none⟩),.pointer (some ⟨T.tb,0,none⟩),.int .i64 id,.bool false,.func (.func 82) #[] #[]] w fun e w'=>∃z f,e=.returned (.tuple #[.int .i64 z,.int .i64 0])/\H.Frame S.foot w w'/\an_ w' { S with its:=S.its.modify i f }/\(f=a4_ false\/(∀x,f x=x)\/∃x,f=a5_ (hd T pos x)/\In m r x):=by
 have QI:=hi_ (ms_ S id w hS);obtain⟨io,icap,hiv⟩:=ab_.slice hS.itrow;obtain⟨g,cap',e,_,hgl,_⟩:=a1_ hS.itrow (by omega);rw[hiv]at e;injection e with e1 e2 e3
 subst e1 e3;rw[id_ hiv hfi]at QI;have HS:=hi_ hS;have HIv:=hi_ hiv;have HFo:=hi_ (gi_ hiv);have QF:=hi_ (fun W (hW:Below w.heap.size w W)=>k5_ T m pos r q W (hT.below hW) hr hq hA);obtain⟨⟨k1,k2,k3⟩,f2,f3,kl⟩:=gT_ hS hiv hi;rw[hrt]at k1;rw[hrf]at k2;rw[hbf]at k3;generalize hd T pos r=zr at *;generalize hd T pos q=zq at *;have HI:=hi_ hi;clear hT hS hfi hrt hrf hr hq hA hiv hbf
 cases bf with
 |true=>
  have HS2:=hi_ (gY_ HS.o HIv.o hi false);have HF2:=hi_ (Frame.set (S:=S.foot) (H.Frame.refl S.foot w) (g:=g) (Or.inl HFo.o) (i*4+3) (.bool false))
  go_enter Tryz.func81,Tryz.ntmps81
  go_wp2_with fail
  refine QI.o.mono ?_;rintro e w1 ⟨rfl,rfl⟩;go_wp2_with fail
  exact bodyPost_ret (v:=.tuple #[.int .i64 zq,.int .i64 0]) (by simp[results,Tryz.results81,go_sem]) rfl ⟨zq,a4_ false,rfl,HF2.o,HS2.o,Or.inl rfl⟩
 |false=>
  go_enter Tryz.func81,Tryz.ntmps81
  go_wp2_with fail
  refine QI.o.mono ?_;rintro e w1 ⟨rfl,rfl⟩;go_upto_region 7 with fail
  have D1:=lc_ k1 kl;have D2:=lc_ k2 kl;refine ao_ 10 _ _ (by kernel_rfl) (by kernel_rfl) rfl ?_;simp only[List.take_succ_cons,List.take_zero];repeat (go_big_quiet_step (fail))
  refine wq_ (fun dq=>?_);have HB:=hi_ dq.h;clear D1 D2 k1 k2 k3 f2 f3 kl;generalize dq.w=w2 at *;clear dq;intro K hK;go_simp
  refine(QF.o w2 HB.o).mono ?_;rintro e w3 ⟨z,rfl,hb3,hz⟩;have HB3:=bt_ HB hb3;have HZ:=hi_ hz;clear hb3 hz QF HB
  (try go_simp)
  refine hK _ _ (as_ ?_);clear hK K;repeat (go_big_quiet_step (fail))
  refine wq_ (fun dq=>?_);have HB4:=bt_ HB3 dq.h;clear HB3;generalize dq.w=w4 at *;clear dq;have HS4:=hi_ (HS.o.below HB4.o);obtain⟨⟨k1,k2,k3⟩,f2,f3,kl⟩:=gT_ HS4.o HIv.o HI.o;generalize hyy:S.its[i].ref=zz at k2;clear hyy k1 k3 f3
  by_cases hz0:z=0
  ·have HS5:Hd (an_ w4 { S with its:=S.its.modify i (fun x=>x) }):=hi_ (by
    have e:S.its.modify i (fun x=>x)=S.its:=List.modify_id ..;rw[e];exact HS4.o)
   subst hz0;go_wp2_with fail
   exact bodyPost_ret (v:=.tuple #[.int .i64 0,.int .i64 0]) (by simp[results,Tryz.results81,go_sem]) rfl ⟨0,fun x=>x,rfl,Frame.of HB4.o,HS5.o,Or.inr (Or.inl (fun _=>rfl))⟩
  have z1:(z==0)=false:=bn_ hz0;have z2:(z != 0)=true:=bne_iff_ne.2 hz0;have HX:Hd (∃x,z=hd T pos x/\In m r x):=hi_ (HZ.o.resolve_left hz0);have HS5:=hi_ (i2_ HS4.o HIv.o HI.o z);have HF5:=hi_ (Frame.set (S:=S.foot) (Frame.of HB4.o) (g:=g) (Or.inl HFo.o) (i*4+2) (.int .i64 z));go_wp2_with fail
  obtain⟨x,hx,hI⟩:=HX.o;exact bodyPost_ret (v:=.tuple #[.int .i64 z,.int .i64 0]) (by simp[results,Tryz.results81,go_sem]) rfl ⟨z,a5_ z,rfl,HF5.o,HS5.o,Or.inr (Or.inr ⟨x,by rw[hx],hI⟩)⟩
end A
end
section
namespace G
theorem Sim.symm{m m2:aa_}(h:Sim m m2):Sim m2 m:=⟨h.len.symm,fun i=>(h.same i).symm⟩
theorem Sim.trans{m m2 m3:aa_}(h:Sim m m2)(g:Sim m2 m3):Sim m m3:=⟨h.len.trans g.len,fun i=>(h.same i).trans (g.same i)⟩
def era(m:aa_):aa_:=m.map er
@[simp] theorem fb_ (m:aa_):(era m).length=m.length:=by unfold era;simp
theorem bD_(m:aa_)(i:Nat):nd (era m) i=er (nd m i):=by
 rcases Nat.lt_or_ge i m.length with h|h
 ·rw[nY_ h,nY_ (by rw[fb_];exact h)];simp[era]
 rw[c1_ h,c1_ (by rw[fb_];exact h)];rfl
theorem Sim.era{m m2:aa_}(h:Sim m m2):G.era m=G.era m2:=du_ (by simp[h.len]) (fun i=>by rw[bD_,bD_,h.same])
theorem iV_{m m2:aa_}(h:era m=era m2):Sim m m2:=⟨by have:=congrArg List.length h;simpa using this,fun i=>by rw[<-bD_,<-bD_,h]⟩
theorem gj_(m:aa_)(i:Nat){f f':Node->Node}(h:∀x,er (f x)=f' (er x)):era (upd m i f)=upd (era m) i f':=by
 refine du_ (by simp) fun j=>?_;rw[bD_]
 rcases Nat.lt_or_ge i m.length with hi|hi
 ·rw[cn_ hi,cn_ (by rw[fb_];exact hi),bD_]
  split
  ·exact h _
  rfl
 rw[em_ hi,em_ (by rw[fb_];exact hi),bD_]
theorem m0_(m:aa_)(h p:Nat):era (cut m h p)=cut (era m) h p:=by
 unfold cut;rw[gj_ _ _ (f':=fun x=>{ x with parent:=none }) (fun x=>rfl),gj_ _ _ (f':=fun x=>{ x with kids:=x.kids.erase h }) (fun x=>rfl)]
theorem mZ_(m:aa_)(p h i:Nat):era (put m p h i)=put (era m) p h i:=by
 unfold put;rw[gj_ _ _ (f':=fun x=>{ x with parent:=some p }) (fun x=>rfl),gj_ _ _ (f':=fun x=>{ x with kids:=x.kids.take i++h :: x.kids.drop i }) (fun x=>rfl)]
theorem oj_(m:aa_)(h:Nat)(d:Bytes):era (bQ_ m h d)=bQ_ (era m) h d:=by
 unfold bQ_;rw[gj_ _ _ (f':=fun x=>{ x with data:=d }) (fun x=>rfl)]
theorem gk_(m:aa_)(x:Node):era (m++[x])=era m++[er x]:=by unfold era;simp
theorem lz_(m:aa_):∀(n h:Nat),up (era m) n h=up m n h
 |0,_=>rfl
 |n+1,h=>by
  have e:(nd (era m) h).parent=(nd m h).parent:=by rw[bD_];rfl
  cases hp:(nd m h).parent with
  |none=>rw[cX_ hp,cX_ (e.trans hp)]
  |some p=>rw[cW_ hp,cW_ (e.trans hp),lz_ m n p]
theorem iE_(m:aa_)(a b:Nat):contains (era m) a b=contains m a b:=by unfold contains anc;rw[lz_]
theorem m5_(m:aa_)(h:Nat):depth (era m) h=depth m h:=by unfold depth anc;rw[lz_]
theorem gb_(m:aa_):∀(n h:Nat),b3_ (era m) n h=b3_ m n h
 |0,_=>rfl
 |n+1,h=>by
  rw[b3_,b3_,bD_];show eC_ ((nd m h).kids.map _)+1=_;rw[List.map_congr_left (fun c _=>gb_ m n c)]
theorem kW_(m:aa_)(h:Nat):ay_ (era m) h=ay_ m h:=gb_ m 128 h
theorem may_era(m:aa_)(p h:Nat):may (era m) p h=may m p h:=by
 unfold may;simp only[bD_,iE_];rfl
theorem out_era(m:aa_)(h:Nat):out (era m) h=era (out m h):=by
 have e:(nd (era m) h).parent=(nd m h).parent:=by rw[bD_];rfl
 unfold out;rw[e]
 cases (nd m h).parent with
 |none=>rfl
 |some q=>exact(m0_ m h q).symm
theorem ha_(m:aa_)(h p:Nat):bm_ (era m) h p=bm_ m h p:=by unfold bm_;rw[bD_];rfl
theorem kA_(m:aa_)(p h i:Nat):cY_ (era m) p h i=cY_ m p h i:=by unfold cY_;rw[bD_];rfl
theorem kB_(m:aa_)(h:Nat):a6_ (era m) h=a6_ m h:=by
 have e:(nd (era m) h).parent=(nd m h).parent:=by rw[bD_];rfl
 unfold a6_;rw[e]
 cases (nd m h).parent with
 |none=>rfl
 |some q=>exact congrArg (fun r=>[r]) (ha_ m h q)
theorem iI_(m:aa_)(h:Nat)(b:Option Nat):aA_ (era m) h b=aA_ m h b:=by
 have e:(nd (era m) h).parent=(nd m h).parent:=by rw[bD_];rfl
 unfold aA_;rw[e]
 split
 ·cases (nd m h).parent with
  |none=>rfl
  |some q=>dsimp only;rw[bD_];rfl
 rfl
theorem i7_(m:aa_)(p:Nat)(b:Option Nat):placeOf (era m) p b=placeOf m p b:=by
 unfold placeOf;rw[bD_];rfl
theorem kS_(m:aa_)(p h:Nat)(b:Option Nat):insert (era m) p h b=((insert m p h b).1,(insert m p h b).2.1,era (insert m p h b).2.2):=by
 have hpar:∀x,(nd (era m) x).parent=(nd m x).parent:=fun x=>by rw[bD_];rfl
 unfold insert;rw[may_era,m5_,kW_,kB_,out_era,iI_,i7_,kA_,<-mZ_];simp only[hpar]
 by_cases c:may m p h=false\/∃x,b=some x/\(nd m x).parent≠some p
 ·simp only[if_pos c]
 simp only[if_neg c]
 by_cases c2:128<depth m p+ay_ m h
 ·simp only[if_pos c2]
 simp only[if_neg c2]
theorem ky_(m:aa_)(h:Nat):bd_ (era m) h=((bd_ m h).1,(bd_ m h).2.1,era (bd_ m h).2.2):=by
 have e:(nd (era m) h).parent=(nd m h).parent:=by rw[bD_];rfl
 have ek:(nd (era m) h).kind=(nd m h).kind:=by rw[bD_];rfl
 unfold bd_;rw[e,ek]
 by_cases c:(nd m h).kind=1
 ·simp only[if_pos c]
 simp only[if_neg c]
 cases (nd m h).parent with
 |none=>rfl
 |some q=>dsimp only;rw[ha_,m0_]
theorem iZ_(m:aa_)(h:Nat)(i c:Int)(s:Bytes):replace (era m) h i c s=((replace m h i c s).1,(replace m h i c s).2.1,era (replace m h i c s).2.2):=by
 have ed:(nd (era m) h).data=(nd m h).data:=by rw[bD_];rfl
 have ek:(nd (era m) h).kind=(nd m h).kind:=by rw[bD_];rfl
 unfold replace;rw[ed,ek]
 by_cases c1:(nd m h).kind<3
 ·simp only[if_pos c1]
 simp only[if_neg c1]
 by_cases c2:i<0\/((U.pts (nd m h).data).length:Int)<i\/c<0
 ·simp only[if_pos c2]
 simp only[if_neg c2];rw[oj_]
theorem iC_:∀(n:Nat) (m:aa_) (h:Nat) (deep:Bool),copyT n (era m) h deep=era (copyT n m h deep)
 |0,_,_,_=>rfl
 |n+1,m,h,deep=>by
  have e0:era m++[bare (er (nd m h))]=era (m++[bare (nd m h)]):=(gk_ m (bare (nd m h))).symm;rw[copyT,copyT,bD_]
  cases deep with
  |false=>exact e0
  |true=>
   simp only[if_true];have hf:∀(l:List Nat) (m':aa_),l.foldl (fun m' c=>put (copyT n m' c true) (era m).length m'.length (nd (copyT n m' c true) (era m).length).kids.length) (era m')=era (l.foldl (fun m' c=>put (copyT n m' c true) m.length m'.length (nd (copyT n m' c true) m.length).kids.length) m'):=by
    intro l
    induction l with
    |nil=>exact fun m'=>rfl
    |cons c t ih=>
     intro m';rw[List.foldl_cons,List.foldl_cons,<-ih];refine congrArg (List.foldl _ · t) ?_;rw[iC_ n m' c true,mZ_,fb_,fb_,bD_];rfl
   rw[e0];exact hf _ _
theorem lj_(m:aa_)(h:Nat)(deep:Bool):aU_ (era m) h deep=((aU_ m h deep).1,era (aU_ m h deep).2):=by
 have ek:(nd (era m) h).kind=(nd m h).kind:=by rw[bD_];rfl
 unfold aU_;rw[ek]
 by_cases c:(nd m h).kind=1
 ·simp only[if_pos c]
 simp only[if_neg c];rw[iC_]
theorem fD_{f:aa_->List Rec×Nat×aa_}(hf:∀m,f (era m)=((f m).1,(f m).2.1,era (f m).2.2)){m m2:aa_}(S:Sim m m2):(f m).1=(f m2).1/\(f m).2.1=(f m2).2.1/\Sim (f m).2.2 (f m2).2.2:=by
 have h1:=hf m;rw[S.era,hf m2]at h1;injection h1 with h1 h2
 injection h2 with h2 h3
 exact⟨h1.symm,h2.symm,iV_ h3.symm⟩
end G
namespace A
open G
def Alike(o:G.Op)(x y:List Rec×Nat×aa_):Prop:=
 ((x.1=y.1\/x.1.length≠y.1.length\/x.2.1≠y.2.1)\/((o.kind % 10=5\/o.kind % 10=6)/\eB_ x.1 y.1))/\Sim x.2.2 y.2.2
theorem iJ_(h:Nat)(nm o1 o2:G.Bytes)(b1 b2:Bool):[aM_ h nm o1 b1]=[aM_ h nm o2 b2]\/eB_ [aM_ h nm o1 b1] [aM_ h nm o2 b2]:=by
 by_cases e1:o1=o2
 ·by_cases e2:b1=b2
  ·exact Or.inl (by rw[e1,e2])
  exact Or.inr ⟨h,nm,o1,b1,o2,b2,rfl,rfl,Or.inr ⟨e1,e2⟩⟩
 exact Or.inr ⟨h,nm,o1,b1,o2,b2,rfl,rfl,Or.inl e1⟩
theorem ec_{o:G.Op}{x y:List Rec×Nat×aa_}(h:x.1=y.1/\x.2.1=y.2.1/\Sim x.2.2 y.2.2):Alike o x y:=⟨Or.inl (Or.inl h.1),h.2.2⟩
section
variable {m m2:aa_} (S:Sim m m2) {o:G.Op}
include S
theorem no_(hk:o.kind % 10=5)(h:Nat)(nm vl:G.Bytes)(lim lim2:Option Nat):Alike o (az_ lim m h nm vl) (az_ lim2 m2 h nm vl):=by
 have U:∀(f g:G.Node->G.Node),(∀x,er (f x)=er x)->(∀x,er (g x)=er x)->Sim (upd m h f) (upd m2 h g):=fun f g hf hg=>((dD_ m h f hf).symm.trans S).trans (dD_ m2 h g hg);have U1:∀(f:G.Node->G.Node),(∀x,er (f x)=er x)->Sim (upd m h f) m2:=fun f hf=>(dD_ m h f hf).symm.trans S;have U2:∀(f:G.Node->G.Node),(∀x,er (f x)=er x)->Sim m (upd m2 h f):=fun f hf=>S.trans (dD_ m2 h f hf);have P:∀o1 b1 o2 b2 m' m2',Sim m' m2'->Alike o ([aM_ h nm o1 b1],0,m') ([aM_ h nm o2 b2],0,m2'):=fun o1 b1 o2 b2 m' m2' hs=>
  ⟨(iJ_ h nm o1 o2 b1 b2).elim (fun e=>Or.inl (Or.inl e)) (fun e=>Or.inr ⟨Or.inl hk,e⟩),hs⟩
 unfold az_;rw[S.kind]
 by_cases c1:(nd m2 h).kind≠2
 ·rw[if_pos c1,if_pos c1];exact⟨Or.inl (Or.inl rfl),S⟩
 rw[if_neg c1,if_neg c1]
 by_cases c2:bE_ nm=false
 ·rw[if_pos c2,if_pos c2];exact⟨Or.inl (Or.inl rfl),S⟩
 rw[if_neg c2,if_neg c2]
 cases h1:bj_ m h nm with
 |some i=>
  cases h2:bj_ m2 h nm with
  |some j=>exact P _ _ _ _ _ _ (U _ _ (fun x=>rfl) (fun x=>rfl))
  |none=>
   dsimp only
   split
   ·exact⟨Or.inl (Or.inr (Or.inl (by simp))),U1 _ (fun x=>rfl)⟩
   exact P _ _ _ _ _ _ (U _ _ (fun x=>rfl) (fun x=>rfl))
 |none=>
  cases h2:bj_ m2 h nm with
  |some j=>
   dsimp only
   split
   ·exact⟨Or.inl (Or.inr (Or.inl (by simp))),U2 _ (fun x=>rfl)⟩
   exact P _ _ _ _ _ _ (U _ _ (fun x=>rfl) (fun x=>rfl))
  |none=>
   dsimp only
   split
   ·split
    ·exact⟨Or.inl (Or.inl rfl),S⟩
    exact⟨Or.inl (Or.inr (Or.inl (by simp))),U2 _ (fun x=>rfl)⟩
   split
   ·exact⟨Or.inl (Or.inr (Or.inl (by simp))),U1 _ (fun x=>rfl)⟩
   exact P _ _ _ _ _ _ (U _ _ (fun x=>rfl) (fun x=>rfl))
theorem lr_(hk:o.kind % 10=6)(h:Nat)(nm:G.Bytes):Alike o (ax_ m h nm) (ax_ m2 h nm):=by
 have U:∀(f g:G.Node->G.Node),(∀x,er (f x)=er x)->(∀x,er (g x)=er x)->Sim (upd m h f) (upd m2 h g):=fun f g hf hg=>((dD_ m h f hf).symm.trans S).trans (dD_ m2 h g hg);have U1:∀(f:G.Node->G.Node),(∀x,er (f x)=er x)->Sim (upd m h f) m2:=fun f hf=>(dD_ m h f hf).symm.trans S;have U2:∀(f:G.Node->G.Node),(∀x,er (f x)=er x)->Sim m (upd m2 h f):=fun f hf=>S.trans (dD_ m2 h f hf);have P:∀o1 b1 o2 b2 m' m2',Sim m' m2'->Alike o ([aM_ h nm o1 b1],0,m') ([aM_ h nm o2 b2],0,m2'):=fun o1 b1 o2 b2 m' m2' hs=>
  ⟨(iJ_ h nm o1 o2 b1 b2).elim (fun e=>Or.inl (Or.inl e)) (fun e=>Or.inr ⟨Or.inr hk,e⟩),hs⟩
 unfold ax_;rw[S.kind]
 by_cases c1:(nd m2 h).kind≠2
 ·rw[if_pos c1,if_pos c1];exact⟨Or.inl (Or.inl rfl),S⟩
 rw[if_neg c1,if_neg c1]
 cases h1:bj_ m h nm with
 |some i=>
  cases h2:bj_ m2 h nm with
  |some j=>exact P _ _ _ _ _ _ (U _ _ (fun x=>rfl) (fun x=>rfl))
  |none=>exact⟨Or.inl (Or.inr (Or.inl (by simp))),U1 _ (fun x=>rfl)⟩
 |none=>
  cases h2:bj_ m2 h nm with
  |some j=>exact⟨Or.inl (Or.inr (Or.inl (by simp))),U2 _ (fun x=>rfl)⟩
  |none=>exact⟨Or.inl (Or.inl rfl),S⟩
theorem nI_(hk:o.kind % 10≠9):Alike o (G.step (some 64) m o) (G.step none m2 o):=by
 have hat:o.at_ m2=o.at_ m:=by unfold Op.at_;rw[S.len]
 have hbt:o.bt m2=o.bt m:=by unfold Op.bt;rw[S.len]
 have hct:o.ct m2=o.ct m:=by unfold Op.ct;rw[S.len]
 have hho:hM_ m2 (o.ct m)=hM_ m (o.ct m):=by
  unfold hM_
  cases o.ct m with
  |none=>rfl
  |some x=>exact(S.has x).symm
 unfold G.step;rw[hat,hbt,hct,hho,<-S.has,<-S.has]
 by_cases k0:o.kind % 10<3
 ·rw[if_pos k0,if_pos k0]
  unfold make
  by_cases c1:2+o.kind % 10=2
  ·rw[if_pos c1,if_pos c1]
   by_cases c2:(dc_ o.s && aW_ o.al [])=true
   ·rw[if_pos c2,if_pos c2]
    exact⟨Or.inl (Or.inl rfl),iV_ (by rw[gk_,gk_,S.era])⟩
   rw[if_neg c2,if_neg c2];exact⟨Or.inl (Or.inl rfl),S⟩
  rw[if_neg c1,if_neg c1];exact⟨Or.inl (Or.inl rfl),iV_ (by rw[gk_,gk_,S.era])⟩
 rw[if_neg k0,if_neg k0]
 by_cases k3:o.kind % 10=3
 ·rw[if_pos k3,if_pos k3]
  split
  ·exact ec_ (fD_ (f:=fun m=>insert m (o.bt m2) (o.at_ m2) (o.ct m2)) (fun m=>kS_ m _ _ _) S |> fun h=>by rw[hbt,hat,hct]at h;exact h)
  exact⟨Or.inl (Or.inl rfl),S⟩
 rw[if_neg k3,if_neg k3]
 by_cases kh:has m (o.at_ m)=false
 ·rw[if_pos kh,if_pos kh];exact⟨Or.inl (Or.inl rfl),S⟩
 rw[if_neg kh,if_neg kh]
 by_cases k4:o.kind % 10=4
 ·rw[if_pos k4,if_pos k4]
  exact ec_ (fD_ (f:=fun x=>bd_ x (o.at_ m)) (fun m=>ky_ m _) S)
 rw[if_neg k4,if_neg k4]
 by_cases k5:o.kind % 10=5
 ·rw[if_pos k5,if_pos k5]
  exact no_ S k5 _ _ _ _ _
 rw[if_neg k5,if_neg k5]
 by_cases k6:o.kind % 10=6
 ·rw[if_pos k6,if_pos k6]
  exact lr_ S k6 _ _
 rw[if_neg k6,if_neg k6]
 by_cases k7:o.kind % 10=7
 ·rw[if_pos k7,if_pos k7]
  exact ec_ (fD_ (f:=fun x=>replace x (o.at_ m) o.n o.k o.t) (fun m=>iZ_ m _ _ _ _) S)
 rw[if_neg k7,if_neg k7];have hlt:o.kind % 10<10:=Nat.mod_lt _ (by omega);have k8:o.kind % 10=8:=by omega
 rw[if_pos k8,if_pos k8];exact ec_ (fD_ (f:=fun x=>([],aU_ x (o.at_ m) (decide (0<o.n)))) (fun m=>by dsimp only;rw[lj_]) S)
end
end A
end
section
open Go.RowKit Go.Shelf
namespace A
open H G R
noncomputable def f4_:Code×Code:=match Tryz.f78.body with
 |some (.seq _ (.seq _ (.seq _ (.seq _ (.seq _ (.block _ (.rangeFunc _ _ a b)))))))=>(a,b)
 |_=>(.skip,.skip)
noncomputable def gB_ (fn:FuncId) (ts:Array Value) (D:Nat) (st:LoopState) (pend:Option Code):Loop:=
 { state:=st,pending:=pend,fn,tmps:=ts,params:=#[46],assign:=f4_.1,body:=f4_.2,defers:=D }
def pd_(m:aa_)(t p h y:Nat):Prop:=has m y=true/\(y=t\/contains m p y=true/\contains m h y=false)
structure pe_(W0:World)(fn:FuncId)(ts:Array Value)(l D:Nat)(S:bh_)(i:Nat)(Z:Int->Prop)(k:Nat)(W:World):Prop where
 set:∃z,Z z/\an_ W { S with its:=S.its.modify i (a5_ z) }
 L:W.heap[l]?=some (.loop (gB_ fn ts D .ready none))
 K:W.heap[D]?=some (.deferred (some []))
 fr:H.Frame S.foot W0 W
def n8_(g l:Nat)(_:World)(b:Nat):Prop:=b=l\/b=g
section
variable {W0:World} {fn:FuncId} {ts:Array Value} {l D g i cap:Nat} {S:bh_} {Z:Int->Prop} {T:am_} {m:aa_} {pos:Nat->Nat}
theorem pe_.go{k:Nat}{W W':World}(h:pe_ W0 fn ts l D S i Z k W)(b:Below W.heap.size W W'):pe_ W0 fn ts l D S i Z k W':=by
 obtain⟨z,hz,hs⟩:=h.set;exact⟨⟨z,hz,hs.below b⟩,(b.block _ (lt_of_block h.L)).trans h.L,(b.block _ (lt_of_block h.K)).trans h.K,h.fr.below_ b⟩
theorem n7_(hT:ag_ W0 T m pos)(hS:an_ W0 S)(hg:S.foot g):kp_ (n8_ g l) (pe_ W0 fn ts l D S i Z) T m pos:=by
 refine⟨fun k W W' h b=>h.go b,fun k W h=>hT.frame hS h.fr,fun k W b h ho=>?_,fun k W W' b h hb' ho=>Or.inl ho⟩
 rcases ho with e|e
 ·rw[e];exact lt_of_block h.L
 obtain⟨z,_,hs⟩:=h.set;rw[e];exact hs.foot_lt hg
theorem eK_{W:World}{S:bh_}(hs:an_ W S){b:Nat}{o:Obj}(hb:W.heap[b]?=some o)(ho:∀c t f,o≠.cells c t f):¬S.foot b:=fun hk=>by
 obtain⟨t,_,cs,h1⟩:=hs.typed hk;have h2:W.heap[b]?=some (.cells cs t (0,0)):=h1;rw[hb]at h2;injection h2 with h2
 exact ho _ _ _ h2
theorem h6_{l:List It}{i:Nat}(z z':Int):(l.modify i (a5_ z)).modify i (a5_ z')=l.modify i (a5_ z'):=by
 refine List.ext_getElem (by simp) fun j h1 h2=>?_;rw[List.getElem_modify,List.getElem_modify,List.getElem_modify]
 split
 ·rfl
 rfl
theorem lv_end{W W9:World}{tmps:Array Value}{k:Nat}{z':Int}(hL:W9.heap[l]?=some (.loop { gB_ fn ts D .ready none with state:=.busy }))(hK:W9.heap[D]?=some (.deferred (some [])))(hDl:D≠l)(h0l:W0.heap.size<=l)(hf:H.Frame S.foot W0 W9)(hz:Z z')(hs:an_ W9 { S with its:=S.its.modify i (a5_ z') })(hr:H.Frame (fun k=>k=l\/k=g) W W9) :
  roundPost Tryz.prog l (fun e W'=>e=.returned (.bool true)/\pe_ W0 fn ts l D S i Z (k+1) W'/\c6_ (n8_ g l) W W') .normal { tmps:=tmps,defers:=[] } W9:=by
 have hl9:=lt_of_block hL;have hend:=run_endRound (P:=Tryz.prog) none hL;have hFe:∀x,H.Frame (fun k=>k=l) W9 (W9.putObj l x):=fun x=>H.Frame.grown (S:=fun k=>k=l) (H.Frame.refl _ W9) (grownBy_putObj_a _ _ _) (fun k e=>by cases e;exact Or.inl rfl);have hnl:¬({ S with its:=S.its.modify i (a5_ z') }:bh_).foot l:=eK_ hs hL (fun _ _ _ e=>by cases e);exact⟨_,_,hend,rfl,⟨⟨z',hz,hs.frame (hFe _) (fun k hk e=>hnl (by rw[<-e];exact hk))⟩,World.putObj_heap_same hl9,((hFe _).block D (lt_of_block hK) hDl).trans hK,hf.trans (hFe _) (fun b e=>Or.inr (by rw[e];exact h0l))⟩,⟨hr.trans (hFe _) (fun b e=>Or.inl (Or.inl e)),fun b hb=>Or.inl hb⟩⟩
theorem j5_(w:World){b g:Nat}(hn:b≠g)(o:Nat)(v:Value):(w.setCell ⟨g,o,none⟩ v).heap[b]?=w.heap[b]?:=by
 by_cases hb:b<w.heap.size
 ·exact(Frame.set (S:=fun k=>k=g) (H.Frame.refl _ w) (g:=g) (Or.inl rfl) o v).block b hb hn
 have e:(w.setCell ⟨g,o,none⟩ v).heap.size=w.heap.size:=by simp[World.setCell]
 rw[Array.getElem?_eq_none (by omega),Array.getElem?_eq_none (by omega)]
end
end A
end
section
open Go.RowKit Go.Sort
namespace A
open H G R
theorem next_(T:am_)(m:aa_)(pos:Nat->Nat)(S:bh_)(id:Int)(i r q:Nat)(w:World)(hT:ag_ w T m pos)(hS:an_ w S)(hfi:gH_ S.its id=some i)(hi:i<S.its.length)(hrt:S.its[i].root=hd T pos r)(hrf:S.its[i].ref=hd T pos q)(bf:Bool)(hbf:S.its[i].before=bf)(hr:has m r=true)(hq:In m r q)(hA:∀i,(nd m i).attrs.length<=100000) :
  Calls Tryz.prog 29 #[.pointer (some ⟨S.sb,0,none⟩),.pointer (some ⟨T.tb,0,none⟩),.int .i64 id] w fun e w'=>∃z f,e=.returned (.tuple #[.int .i64 z,.int .i64 0])/\H.Frame S.foot w w'/\an_ w' { S with its:=S.its.modify i f }/\(f=a4_ false\/(∀x,f x=x)\/∃x,f=a5_ (hd T pos x)/\In m r x):=by
 have QM:=hi_ (move_ T m pos S id i r q w hT hS hfi hi hrt hrf bf hbf hr hq hA);clear hT hS hfi hi hrt hrf hbf hr hq hA
 go_enter Tryz.func29,Tryz.ntmps29
 go_wp2_with fail
 refine QM.o.mono ?_;rintro e w1 ⟨z,f,rfl,hf,hs,hx⟩;have HP:=hi_ (⟨hf,hs,hx⟩:_/\_/\_);clear hf hs hx QM;go_wp2_with fail
 exact bodyPost_ret (v:=.tuple #[.int .i64 z,.int .i64 0]) (by simp[results,Tryz.results29,go_sem]) rfl ⟨z,f,rfl,HP.o.1,HP.o.2.1,HP.o.2.2⟩
end A
end
end Go.Proofs.YtinphfpdfodkkaaGreatDoor
