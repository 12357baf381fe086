/- Texts. -/
import Derived.Test.YtinphfpdfodkkaaGreatDoorP25
import Derived.Test.YtinphfpdfodkkaaGreatDoorP23
set_option linter.unusedVariables false
set_option linter.unusedSimpArgs false
set_option maxHeartbeats 8000000
set_option maxRecDepth 100000
namespace Go.Proofs.YtinphfpdfodkkaaGreatDoor
section
open Go.RowKit Go.Sort
namespace R
open H G A
theorem fR_:(Tryz.prog.info? 105).map (fun i=>(i.zero,i.size,i.bytes))=some (some (.agg #[.int .i64 0,.string ⟨#[]⟩,.slice none 0 0,.string ⟨#[]⟩,.int .i64 0,.slice none 0 0,.bool false]),7,104):=by kernel_rfl
theorem eM_{w:World}{g:Nat}{t:TypeId}{a0 a1 a2 a3 a4 a5 a6:Value}(h:Blk g #[a0,a1,a2,a3,a4,a5,a6] t w) :
  (w.cell? ⟨g,0,none⟩=some a0/\w.cell? ⟨g,1,none⟩=some a1/\w.cell? ⟨g,2,none⟩=some a2/\w.cell? ⟨g,3,none⟩=some a3/\w.cell? ⟨g,4,none⟩=some a4/\w.cell? ⟨g,5,none⟩=some a5/\w.cell? ⟨g,6,none⟩=some a6) ∧
  (w.frozen? ⟨g,1,none⟩=false/\w.frozen? ⟨g,2,none⟩=false/\w.frozen? ⟨g,3,none⟩=false):=by
 have hc:=(ad_ h).1;have hf:=(ad_ h).2;exact⟨⟨hc 0,hc 1,hc 2,hc 3,hc 4,hc 5,hc 6⟩,⟨hf 1 (by simp),hf 2 (by simp),hf 3 (by simp)⟩⟩
theorem Blk.n1{w:World}{A:Nat}{a b c d e f g:Value}{t:TypeId}(k:Blk A #[a,b,c,d,e,f,g] t w)(b':Value):Blk A #[a,b',c,d,e,f,g] t (w.setCell ⟨A,1,none⟩ b'):=by
 have h9:=k.set 1 b';simp only[List.setIfInBounds_toArray,List.set_cons_zero,List.set_cons_succ]at h9;exact h9
theorem Blk.n2{w:World}{A:Nat}{a b c d e f g:Value}{t:TypeId}(k:Blk A #[a,b,c,d,e,f,g] t w)(b':Value):Blk A #[a,b,b',d,e,f,g] t (w.setCell ⟨A,2,none⟩ b'):=by
 have h9:=k.set 2 b';simp only[List.setIfInBounds_toArray,List.set_cons_zero,List.set_cons_succ]at h9;exact h9
theorem Blk.n3{w:World}{A:Nat}{a b c d e f g:Value}{t:TypeId}(k:Blk A #[a,b,c,d,e,f,g] t w)(b':Value):Blk A #[a,b,c,b',e,f,g] t (w.setCell ⟨A,3,none⟩ b'):=by
 have h9:=k.set 3 b';simp only[List.setIfInBounds_toArray,List.set_cons_zero,List.set_cons_succ]at h9;exact h9
def aF_.app(M:aF_)(x:bX_)(g cap:Nat):aF_:={ M with g:=g,cap:=cap,nodes:=M.nodes++[x] }
theorem app_m(M:aF_)(x:bX_)(g cap:Nat):(M.app x g cap).m=M.m++[x.n]:=by unfold aF_.app aF_.m;simp
theorem nu_{w:World}{M:aF_}{x:bX_}{g cap:Nat}(hg:M.g=g\/w.heap.size<=g)(hk:∀k,x.kv.ownBlock=some k->w.heap.size<=k)(ha:∀k,x.av.ownBlock=some k->w.heap.size<=k):aO_ w M (M.app x g cap):=by
 refine⟨rfl,rfl,fun k hf=>?_⟩
 rcases hf with h1|h1|⟨y,hy,h1⟩
 ·exact Or.inl (Or.inl h1)
 ·have h1:k=g:=h1
  rcases hg with h2|h2
  ·exact Or.inl (Or.inr (Or.inl (by rw[h1,h2])))
  ·exact Or.inr (by rw[h1];exact h2)
 ·have hy:y∈M.nodes++[x]:=hy
  rcases List.mem_append.1 hy with hy|hy
  ·exact Or.inl (Or.inr (Or.inr ⟨y,hy,h1⟩))
  ·have:=List.mem_singleton.1 hy
   subst this;exact Or.inr (h1.elim (hk k) (ha k))
theorem g2_{w0 w w':World}{M:aF_}{x:bX_}{g cap:Nat}(h:ab_ w M)(hb:Below w0.heap.size w0 w)(hB0:ab_ w0 M)(f:H.Frame (fun k=>k=M.g) w w')(hlen:M.nodes.length<1000000)
  (hr:w'.ownsRow M.B 105 7 (.slice (some ⟨g,0,none⟩) (M.nodes.length+1) cap) (M.nodes.length+1) (M.nodes.flatMap bS_++bS_ x)) (hg:M.g=g\/w0.heap.size<=g)
  (hkv:x.kv=.slice none 0 0) (hkk:x.n.kids=[]) (ha:ac_ ai_ w0.heap.size 143 2 w' x.av x.n.attrs) :
  ab_ (w'.setCell ⟨M.mb,0,none⟩ (.slice (some ⟨g,0,none⟩) (M.nodes.length+1) cap)) (M.app x g cap)/\H.Frame M.foot w0 (w'.setCell ⟨M.mb,0,none⟩ (.slice (some ⟨g,0,none⟩) (M.nodes.length+1) cap))/\aO_ w0 M (M.app x g cap):=by
 have hlt:=hB0.blk.lt;have hbb:=hB0.bb;refine⟨h.push f hlen hr (by rw[hkv,hkk];exact World.ownsRow_nil _ _ _ _) (b8_ ha (by omega)) (fun j hj k hk=>by rw[hkv]at hk;simp[Value.ownBlock]at hk) (fun j hj k hk e=>?_),?_,nu_ hg (fun k hk=>by rw[hkv]at hk;simp[Value.ownBlock]at hk) (fun k hk=>(World.ownsRow.lt ha k hk).1)⟩
 ·have h1:=(World.ownsRow.lt ha k hk).1
  have h2:=(World.ownsRow.lt (hB0.attrs _ (aF_.at_mem hj).2) k e).2;omega
 ·exact Frame.set (S:=M.foot) ((H.Frame.of (S:=M.foot) hb).trans f (fun b hb=>Or.inl (Or.inr (Or.inl hb)))) (Or.inl (Or.inl rfl)) 0 _
theorem ok_from(l:List BB)(i:Nat)(hi:i<l.length)(seen:List (List UInt8)):aW_ (l.drop i) seen=(bK_ l[i].1 && !seen.contains l[i].1 && aW_ (l.drop (i+1)) (seen++[l[i].1])):=by
 rw[List.drop_eq_getElem_cons hi,aW_]
theorem k1_(l:List BB)(i:Nat)(hi:i<l.length):(l.take i).map (·.1)++[l[i].1]=(l.take (i+1)).map (·.1):=by
 rw[List.take_add_one,List.getElem?_eq_getElem hi,List.map_append];rfl
theorem mG_(l:List BB)(i:Nat)(x:List UInt8)(h:∀j a,j<i->l[j]?=some a->(a.1==x)=false):((l.take i).map (·.1)).contains x=false:=by
 rw[<-Bool.not_eq_true];intro h1;rw[List.contains_iff_mem]at h1;obtain⟨a,ha,e⟩:=List.mem_map.1 h1;obtain⟨j,hj⟩:=List.mem_iff_getElem?.1 ha;rw[List.getElem?_take]at hj
 split at hj
 ·rename_i hji
  have h2:=h j a hji hj;rw[e]at h2;simp at h2
 ·cases hj
theorem mF_(l:List BB)(i k:Nat)(hk:k<i)(hkl:k<l.length)(x:List UInt8)(h:(l[k].1==x)=true):((l.take i).map (·.1)).contains x=true:=by
 rw[List.contains_iff_mem];refine List.mem_map.2 ⟨l[k],?_,by simpa using h⟩;refine List.mem_iff_getElem?.2 ⟨k,?_⟩;rw[List.getElem?_take,if_pos hk,List.getElem?_eq_getElem hkl]
def iZ_(w:World)(M:aF_)(e:Ending)(w':World)(r:Option aa_):Prop:=
 ∃M',e=.returned (.int .i64 (match r with|none=>1|some _=>0))/\H.Frame M.foot w w'/\ab_ w' M'/\M'.m=r.getD M.m/\aO_ w M M'
theorem hI_(M:aF_)(kind:Nat)(name data:List UInt8)(w:World)(hM:ab_ w M)(hk:kind≠2)(hk4:kind<=4)(hd:data.length<=100000)(hlen:M.nodes.length<100000)(av:Value) :
  Calls Tryz.prog 59 #[.pointer (some ⟨M.mb,0,none⟩),.int .i64 kind,.string ⟨name.toArray⟩,.string ⟨data.toArray⟩,av] w fun e w'=>iZ_ w M e w' (make M.m kind name data []):=by
 have HM:=hi_ hM;obtain⟨x,hx⟩:∃x:bX_,x=⟨⟨kind,[],[],U.rep data,none,[],false⟩,.slice none 0 0,.slice none 0 0⟩:=⟨_,rfl⟩;have HX:=hi_ hx;have hR:make M.m kind name data []=some (M.m++[x.n]):=by unfold make;rw[if_neg hk,hx]
 rw[hR];have QR:=hi_ (fun W=>df_ data W (by omega));obtain⟨i0,hi0,hz0,hz1,hz2⟩:=info_parts fR_;have hb1:=(Below.refl w.heap.size w).alloc (nl_) (.cells #[.int .i64 kind,.string ⟨#[]⟩,.slice none 0 0,.string ⟨#[]⟩,.int .i64 (-1),.slice none 0 0,.bool false] 105);have HB1:=hi_ hb1;have HX1:=hi_ (Blk.new w #[.int .i64 kind,.string ⟨#[]⟩,.slice none 0 0,.string ⟨#[]⟩,.int .i64 (-1),.slice none 0 0,.bool false] 105);have hk2:¬(kind:Int)=2:=by omega
 have hk3:((kind:Int)==2)=false:=bn_ hk2;clear hM hb1 hR hk hx
 go_enter Tryz.func59,Tryz.ntmps59
 go_wp2_with fail
 generalize w.alloc (.cells #[.int .i64 kind,.string ⟨#[]⟩,.slice none 0 0,.string ⟨#[]⟩,.int .i64 (-1),.slice none 0 0,.bool false] 105)=w1 at *;refine(QR.out w1).mono ?_;rintro e w2 ⟨rfl,hb2⟩;have HX2:=hi_ (HX1.out.below hb2);have HB2:=bt_ HB1 hb2;obtain⟨_,⟨_,_,f3⟩⟩:=eM_ HX2.out;have hlX:=HX2.out.lt;have hMl:=Nat.lt_of_lt_of_le HM.out.blk.lt HB2.out.size;have hne:¬w.heap.size=M.mb:=by have:=HM.out.blk.lt;omega
 clear hb2 QR HX1 HB1;have HX3:=hi_ (Blk.n3 HX2.out (.string ⟨(U.rep data).toArray⟩));have HB3:=hi_ (HB2.out.setCell (p:=⟨w.heap.size,3,none⟩) (nl_) (.string ⟨(U.rep data).toArray⟩));go_upto_region 18 with fail
 generalize World.setCell w2 ⟨w.heap.size,3,none⟩ (.string ⟨(U.rep data).toArray⟩)=w3 at *;have HM3:=hi_ (HM.out.below HB3.out);obtain⟨c0,l0,l1⟩:=HM3.out.top;obtain⟨⟨a0,a1,a2,a3,a4,a5,a6⟩,_⟩:=eM_ HX3.out;have hlX:=HX3.out.lt;have HA3:Hid (ac_ ai_ w.heap.size 143 2 w3 x.av x.n.attrs):=hi_ (by rw[HX.out];exact World.ownsRow_nil _ _ _ _);have HNc:Hid (bS_ x=[.int .i64 kind,.string ⟨#[]⟩,.slice none 0 0,.string ⟨(U.rep data).toArray⟩,.int .i64 (-1),.slice none 0 0,.bool false]):=hi_ (by rw[HX.out];rfl);have HE:=hi_ (fun w' g cap f hr hg=>g2_ (w0:=w) (w:=w3) (w':=w') (M:=M) (x:=x) (g:=g) (cap:=cap) HM3.out HB3.out HM.out f (by omega) hr hg (by rw[HX.out]) (by rw[HX.out]));have hbb:=HM.out.bb;have hml:=HM.out.blk.lt;have hws:=HB3.out.size;have hfew:=HM.out.few
 have hgm:M.mb≠M.g:=fun e=>ak_ HM3.out.row HM3.out.blk (by decide) (by rw[e];rfl);have hga:∀k,x.av.ownBlock=some k->k≠M.g:=fun k hk e=>by
  have h1:=(World.ownsRow.lt HA3.out k hk).1;have h2:=(ae_ HM.out.row).1;omega
 have HGm:=hi_ hgm;have HGa:=hi_ hga;clear hgm hga hne
 go_region_law ((refine step_append_lies _ (by rfl) _ _ _ (by rfl) M.B 105 i0 _ 7 104 Tryz.underlying100 hi0 hz0 hz1 hz2 rfl (by omega) (.slice (some ⟨M.g,0,none⟩) M.nodes.length M.cap) M.nodes.length (M.nodes.flatMap bS_) (by rfl) ((World.ownsRow.alloc HM3.out.row _).drew) ⟨w3.heap.size,0,none⟩ 1 1 [.int .i64 kind,.string ⟨#[]⟩,.slice none 0 0,.string ⟨(U.rep data).toArray⟩,.int .i64 (-1),.slice none 0 0,.bool false] (by rfl) (by rfl) (World.news_of_block (cs:=#[.int .i64 kind,.string ⟨#[]⟩,.slice none 0 0,.string ⟨(U.rep data).toArray⟩,.int .i64 (-1),.slice none 0 0,.bool false]) (t:=105) (fr:=(0,0)) (heap_alloc_new w3 _)) (by simp[Value.oneCell']) (by omega) (by unfold maxLen;omega) (by omega) (by simp;omega) (w3.heap.size+1) (by simp) ?_;intro gg cap2 w5 hown5 hgrow hat5 hlt5;have hF5:H.Frame (fun k=>k=M.g) w3 w5:=H.Frame.grown (S:=fun k=>k=M.g) (Frame.drew (Frame.alloc (H.Frame.refl _ w3) _)) hgrow (fun k hk=>Or.inl (by have hk:some M.g=some k:=hk;injection hk with hk;exact hk.symm));have hb5:=HM3.out.blk.frame hF5 HGm.out;have d0:=(ad_ hb5).1 0;have m0:=hb5.lt;have g0:=(ad_ hb5).2 0 (by simp)))
 all_goals (
  have hA5:=ah_ HA3.out hF5 HGa.out;have hfin:=HE.out w5 gg cap2 hF5 (by rw[HNc.out];exact hown5) (hat5.imp (fun e=>by have e:some M.g=some gg:=e;injection e) (fun e=>by omega)) hA5;have HFin:=hi_ hfin;clear hfin hA5 hown5 hgrow hat5 hF5 hb5;go_wp2_with fail
  refine bodyPost_ret (v:=.int .i64 0) (by simp[results,Tryz.results59,go_sem]) rfl ⟨_,rfl,HFin.out.2.1,HFin.out.1,?_,HFin.out.2.2⟩;rw[app_m];rfl)
structure RestK(w:World)(M:aF_)(i:Nat):Prop where
 blk:Blk M.mb #[.slice (some ⟨M.g,0,none⟩) M.nodes.length M.cap] 102 w
 row:ac_ bS_ M.B 105 7 w (.slice (some ⟨M.g,0,none⟩) M.nodes.length M.cap) M.nodes
 few:M.nodes.length<=1000000
 bb:M.B<=M.mb
 kids:∀j,j<M.nodes.length->j≠i->b4_ M.B w (M.at_ j).kv (M.at_ j).n.kids
 attrs:∀x,x∈M.nodes->ac_ ai_ M.B 143 2 w x.av x.n.attrs
 kapart:∀i j,i<M.nodes.length->j<M.nodes.length->i≠j->∀g,(M.at_ i).kv.ownBlock=some g->(M.at_ j).kv.ownBlock≠some g
 aapart:∀i j,i<M.nodes.length->j<M.nodes.length->i≠j->∀g,(M.at_ i).av.ownBlock=some g->(M.at_ j).av.ownBlock≠some g
theorem ab_.restK{w w':World}{M:aF_}{i:Nat}(h:ab_ w M)(hi:i<M.nodes.length)(f:H.Frame (fun k=>(M.at_ i).kv.ownBlock=some k) w w'):RestK w' M i:=by
 have ha:=h.kids _ (aF_.at_mem hi).2;refine⟨h.blk.frame f (fun e=>ak_ ha h.blk (by decide) e),ah_ h.row f (fun g hg e=>aU_ ha h.row (by decide) e hg),h.few,h.bb,fun j hj hne=>ah_ (h.kids _ (aF_.at_mem hj).2) f (fun g hg e=>h.kapart i j hi hj (fun e2=>hne e2.symm) g e hg),fun x hx=>ah_ (h.attrs x hx) f (fun g hg e=>aU_ ha (h.attrs x hx) (by decide) e hg),h.kapart,h.aapart⟩
theorem RestK.put{w:World}{M:aF_}{i:Nat}(h:RestK w M i)(hi:i<M.nodes.length){kv:Value}{kl:List Nat}(hr:b4_ M.B w kv kl)(hap:∀j,j<M.nodes.length->j≠i->∀g,kv.ownBlock=some g->(M.at_ j).kv.ownBlock≠some g) :
  ab_ (w.setCell ⟨M.g,i*7+5,none⟩ kv) (M.modN i fun x=>{ x with kv:=kv,n:={ x.n with kids:=kl } }):=by
 have hlen:=ct_ M i (fun x=>{ x with kv:=kv,n:={ x.n with kids:=kl } });have hat:=e3_ (f:=fun x=>{ x with kv:=kv,n:={ x.n with kids:=kl } }) hi;have hav:∀j,((M.modN i fun x=>{ x with kv:=kv,n:={ x.n with kids:=kl } }).at_ j).av=(M.at_ j).av:=fun j=>by rw[hat];split<;>rfl
 have hg1:M.mb≠M.g:=fun e=>ak_ h.row h.blk (by decide) (by rw[e];rfl);refine⟨?_,?_,by rw[hlen];exact h.few,h.bb,fun x hx=>?_,fun x hx=>?_,fun a b ha hb hne g hg=>?_,fun a b ha hb hne g hg=>?_⟩
 ·rw[hlen];exact h.blk.far hg1 _ _
 ·exact ac_.store aT_ h.row hi (by omega) kv _ rfl
 ·obtain⟨j,hj,rfl⟩:=dW_ x hx
  rw[hat]
  by_cases e:j=i
  ·rw[if_pos e]
   exact au_ hr (fun e=>aU_ hr h.row (by decide) e rfl) (i*7+5) kv
  ·rw[if_neg e]
   have h1:=h.kids j hj e;exact au_ h1 (fun e=>aU_ h1 h.row (by decide) e rfl) (i*7+5) kv
 ·obtain⟨j,hj,rfl⟩:=dW_ x hx
  have h1:=h.attrs _ (aF_.at_mem hj).2;have h2:=au_ h1 (fun e=>aU_ h1 h.row (by decide) e rfl) (i*7+5) kv;rw[hat]
  split<;>exact h2
 ·have ha':a<M.nodes.length:=by rw[<-hlen];exact ha
  have hb':b<M.nodes.length:=by rw[<-hlen];exact hb
  rw[hat]at hg ⊢
  by_cases ea:a=i
  ·rw[if_pos ea]at hg
   rw[if_neg (fun e=>hne (ea.trans e.symm))];exact hap b hb' (fun e=>hne (ea.trans e.symm)) g hg
  ·rw[if_neg ea]at hg
   by_cases eb:b=i
   ·rw[if_pos eb]
    exact fun h5=>hap a ha' ea g h5 hg
   ·rw[if_neg eb]
    exact h.kapart a b ha' hb' hne g hg
 ·rw[hav]at hg ⊢
  exact h.aapart a b (by rw[<-hlen];exact ha) (by rw[<-hlen];exact hb) hne g hg
def f9_(m:aa_):Prop:=∀i,(nd m i).kids.length<=m.length
theorem f9_.of{m:aa_}(W:WF m):f9_ m:=fun i=>by
 have h1:(nd m i).kids.length<=(List.range m.length).length:=List.Nodup.length_le_of_subset (W.nodup i) (fun x hx=>List.mem_range.2 (W.kid i x hx).1)
 rwa [List.length_range]at h1
theorem f9_.addc{m:aa_}(h:f9_ m)(x:G.Node)(hx:x.kids=[])(par:Option Nat):f9_ (addc m x par):=by
 have ha:∀y:G.Node,y.kids=[]->f9_ (m++[y]):=fun y hy i=>by
  rw[aK_,List.length_append]
  split
  ·rw[hy];simp
  ·have:=h i;simp;omega
 cases par with
 |none=>unfold G.addc;exact ha _ hx
 |some p=>
  unfold G.addc;dsimp only;intro i;have h1:=ha { x with parent:=some p } hx;rw[cM_]
  rcases Nat.lt_or_ge p (m++[{ x with parent:=some p }]).length with hp|hp
  ·rw[cC_ hp]
   split
   ·rename_i e
    dsimp only;rw[List.length_append,List.length_append];rw[aK_]
    split
    ·rw[hx];simp
    ·have:=h i;simp;omega
   ·exact h1 i
  ·rw[gT_ hp];exact h1 i
end R
end
section
open Go.RowKit Go.Sort
namespace G
theorem f9_.copyN:∀(n:Nat) {m:aa_} (h:R.f9_ m) (a:Nat) (par:Option Nat) (deep:Bool),R.f9_ (copyN n m a par deep)
 |0,m,h,a,par,deep=>h
 |n+1,m,h,a,par,deep=>by
  have h1:R.f9_ (addc m (bare (nd m a)) par):=R.f9_.addc h _ rfl par;rw[G.copyN]
  cases deep with
  |false=>exact h1
  |true=>
   simp only[if_true];have hf:∀(l:List Nat) (m':aa_),R.f9_ m'->R.f9_ (l.foldl (fun m' c=>G.copyN n m' c (some m.length) true) m'):=by
    intro l
    induction l with
    |nil=>exact fun m' h=>h
    |cons c t ih=>exact fun m' h'=>ih _ (f9_.copyN n h' c _ true)
   exact hf _ _ h1
theorem dI_(n:Nat)(K B:Nat)(hKB:B<=K):∀(l:List Nat) (m':aa_),(∀c∈l,c<B)->K<m'.length->Low B m' →
  m'.length<=(l.foldl (fun m' c=>copyN n m' c (some K) true) m').length/\∀i,i<B->nd (l.foldl (fun m' c=>copyN n m' c (some K) true) m') i=nd m' i
 |[],m',_,_,_=>⟨nl_,fun i hi=>rfl⟩
 |c :: t,m',hc,hK,hL=>by
  obtain⟨a1,a2⟩:=cs_ n m' c (some K) true B (by omega) hL (hc c (by simp)) (fun q hq'=>by injection hq' with e;subst e;exact⟨hK,hKB⟩);obtain⟨b1,b2⟩:=dI_ n K B hKB t (copyN n m' c (some K) true) (fun d hd=>hc d (by simp[hd])) (by omega) (fun i hi c hc=>by rw[a2 i hi]at hc;exact hL i hi c hc);rw[List.foldl_cons];exact⟨by omega,fun i hi=>(b2 i hi).trans (a2 i hi)⟩
theorem Low.of_same{B:Nat}{m m':aa_}(hL:Low B m)(h:∀i,i<B->nd m' i=nd m i):Low B m':=fun i hi c hc=>by rw[h i hi]at hc;exact hL i hi c hc
theorem ig_{m:aa_}{x:Node}{par:Option Nat}{B:Nat}(hB:B<=m.length)(hq:∀q,par=some q->q<m.length/\B<=q)(i:Nat)(hi:i<B):nd (addc m x par) i=nd m i:=
 eV_ (by omega) (fun q hq'=>⟨(hq q hq').1,by have:=(hq q hq').2;omega⟩)
theorem l1_(n:Nat){m m2:aa_}{ks:List Nat}{K B i c N:Nat}(hKB:B<=K)(hc:ks[i]?=some c)(hks:∀c∈ks,c<B)(hK:K<m2.length)(hL:Low B m2)
  (hN:(ks.foldl (fun m' c=>copyN n m' c (some K) true) m2).length<=N) :
  (ks.take (i+1)).foldl (fun m' c=>copyN n m' c (some K) true) m2=copyN n ((ks.take i).foldl (fun m' c=>copyN n m' c (some K) true) m2) c (some K) true ∧
  (copyN n ((ks.take i).foldl (fun m' c=>copyN n m' c (some K) true) m2) c (some K) true).length<=N/\m2.length<=((ks.take i).foldl (fun m' c=>copyN n m' c (some K) true) m2).length:=by
 have h1:(ks.take (i+1)).foldl (fun m' c=>copyN n m' c (some K) true) m2=copyN n ((ks.take i).foldl (fun m' c=>copyN n m' c (some K) true) m2) c (some K) true:=by
  rw[List.take_add_one,hc,List.foldl_append];rfl
 obtain⟨a1,a2⟩:=dI_ n K B hKB (ks.take i) m2 (fun d hd=>hks d (List.mem_of_mem_take hd)) hK hL;obtain⟨b1,b2⟩:=dI_ n K B hKB (ks.take (i+1)) m2 (fun d hd=>hks d (List.mem_of_mem_take hd)) hK hL;obtain⟨c1,_⟩:=dI_ n K B hKB (ks.drop (i+1)) ((ks.take (i+1)).foldl (fun m' c=>copyN n m' c (some K) true) m2) (fun d hd=>hks d (List.mem_of_mem_drop hd)) (by omega) (hL.of_same b2);rw[<-List.foldl_append,List.take_append_drop]at c1;refine⟨h1,?_,a1⟩;rw[<-h1];omega
end G
namespace R
open H G A
def i0_(n:Nat):Prop:=∀(B:Nat) (M:aF_) (h:Nat) (par:Option Nat) (deep:Bool) (w:World),ab_ w M->h<B->B<=M.nodes.length->Low B M.m->G.low M.m n h->(∀q,par=some q->q<M.nodes.length/\B<=q) →
 (copyN n M.m h par deep).length<=100000->(∀i,i<B->(nd M.m i).attrs.length<=100000)->f9_ M.m →
 Calls Tryz.prog 156 #[.pointer (some ⟨M.mb,0,none⟩),.int .i64 h,.int .i64 (cm_ par),.bool deep] w fun e w'=>∃M',e=.returned (.tuple #[])/\H.Frame M.foot w w'/\ab_ w' M'/\M'.m=copyN n M.m h par deep/\aO_ w M M'/\∀i,i<B->M'.at_ i=M.at_ i
theorem kz_{M:aF_}{x:bX_}{g cap:Nat}{j:Nat}(hj:j<M.nodes.length):(M.app x g cap).at_ j=M.at_ j:=by
 show({ M with g:=g,cap:=cap,nodes:=M.nodes++[x] }:aF_).at_ j=_;rw[ml_,if_neg (by omega)]
theorem app_len(M:aF_)(x:bX_)(g cap:Nat):(M.app x g cap).nodes.length=M.nodes.length+1:=by unfold aF_.app;simp
end R
end
section
open Go.RowKit Go.Sort
namespace R
open H G A
def ptV(p:Nat×Nat):List Value:=[.int .i64 p.1,.int .i64 p.2]
theorem iv_(p:Nat×Nat):(ptV p).length=2:=rfl
abbrev mv_(base:Nat)(w:World)(v:Value)(l:List (Nat×Nat)):Prop:=ac_ ptV base 30 2 w v l
theorem infoPt:(Tryz.prog.info? 30).map (fun i=>(i.zero,i.size,i.bytes))=some (some (.agg #[.int .i64 0,.int .i64 0]),2,16):=by kernel_rfl
theorem one_ptV:∀(l:List (Nat×Nat)),∀u∈l.flatMap ptV,u.oneCell'=true:=by
 intro l u hu;obtain⟨a,_,ha⟩:=List.mem_flatMap.1 hu;unfold ptV at ha;simp at ha
 rcases ha with e|e<;>rw[e]<;>rfl
theorem all_pos{m:aa_}(W:WF m)(h:Nat):0<(all m h).length:=by
 rw[W.all_eq,List.range_succ_eq_map,List.flatMap_cons];simp
def Whole(m:aa_):Prop:=∀i,(nd m i).data.length<=100000/\U.rep (nd m i).data=(nd m i).data
theorem dX_{m:aa_}(W:WF m)(i:Nat):(nd m i).kids.length<=m.length:=by
 have h1:(nd m i).kids.length<=(List.range m.length).length:=List.Nodup.length_le_of_subset (W.nodup i) (fun x hx=>List.mem_range.2 (W.kid i x hx).1)
 rwa [List.length_range]at h1
theorem cJ_{m:aa_}(W:WF m)(hD:Whole m)(hl:m.length<=100000)(i:Nat):G.sizeOf m i<=100000:=by
 unfold G.sizeOf
 split
 ·exact Nat.le_trans (U.cK_ _) (hD i).1
 ·exact Nat.le_trans (dX_ W i) hl
theorem f6_{m:aa_}(W:WF m)(hD:Whole m)(hl:m.length<=10000){i:Nat}(hi:i<m.length):(all m i).length<=1000010000:=by
 have h1:=W.all_len (cJ_ W hD (by omega)) i hi;have h2:m.length*(100000+1)<=10000*(100000+1):=Nat.mul_le_mul_right _ hl;omega
theorem mAll(M:aF_)(w0:World)(h0:ab_ w0 M)(W:WF M.m)(hD:Whole M.m)(hfw:M.m.length<=10000):∀(n i:Nat) (w:World),Below w0.heap.size w0 w->aA_ M.m i<=n->i<M.nodes.length->Calls Tryz.prog 43 #[.pointer (some ⟨M.mb,0,none⟩),.int .i64 i] w fun e w'=>∃v,e=.returned v/\Below w.heap.size w w'/\mv_ w.heap.size w' v (all M.m i):=by
 intro n
 induction n with
 |zero=>
  intro i w hb hn hi;rw[W.height_eq i]at hn;omega
 |succ n ih=>
 intro i w hb0 hn hi;have h:=h0.below hb0;have HM:=hi_ h;have n1:(i:Int)<(M.nodes.length:Int):=by omega
 have n0:(0:Int)<=(i:Int):=by omega
 have HB0:=hi_ hb0;have IH:=hi_ (fun(c:Nat) (hc:c∈(nd M.m i).kids) (W1:World) (hb:Below w.heap.size w W1)=>ih c W1 (hb0.trans (hb.mono hb0.size)) (by have:=W.height_kid hc;omega) (by rw[<-M.m_len];exact(W.kid i c hc).1));have HE:=hi_ (W.all_to i);have hfew:=h.few;have hwl:=f6_ W hD hfw (i:=i) (by rw[M.m_len];exact hi);have HWl:Hid (∀q,q<=G.sizeOf M.m i+1->(da_ M.m i q).length<=1000010000):=hi_ (fun q hq=>Nat.le_trans (W.allTo_len i q hq) hwl);have HSt:=hi_ (fun q=>gO_ M.m i q);have HIn:Hid (∀q,inside M.m (all M.m) i q=if 2<(nd M.m i).kind then[]else match (nd M.m i).kids[q]? with|some c=>all M.m c|none=>[]):=hi_ (fun q=>rfl);have QS:=hi_ (fun W1 (hb:Below w.heap.size w W1)=>mSize M i W1 (h.below hb) hi (by have:=(hD i).1;omega) (hD i).2)
 have HKc:=hi_ (fun W1 (hb:Below w.heap.size w W1)=>(h.below hb).cell hi);have HC:=hi_ (fun W1 (hb:Below w.heap.size w W1)=>b4_.form ((h.below hb).kidsRow hi));obtain⟨ao,cap,hv,_⟩:=b4_.form (h.kidsRow hi);have HV:=hi_ hv;have HTop:=hi_ (fun W1 (hb:Below w.heap.size w W1)=>(h.below hb).top);have hsz:=cJ_ W hD (by omega) i;have HAp:=hi_ (fun c=>all_pos W c);have HAs:=hi_ (fun c (hc:c∈(nd M.m i).kids)=>f6_ W hD hfw (i:=c) (W.kid i c hc).1);obtain⟨wk,hwk⟩:∃wk,wk=all M.m i:=⟨_,rfl⟩;rw[<-hwk]at HE ⊢;have hkl:=dX_ W i;generalize hl:(nd M.m i).kids=l at *;generalize hkd:(nd M.m i).kind=kd at *;generalize hS:G.sizeOf M.m i=S at *;obtain⟨i0,hi0,hz0,hz1,hz2⟩:=info_parts infoPt;clear ih h hn hi hv hl hkd hS hwk hwl hb0 h0 hD W
 go_enter Tryz.func43,Tryz.ntmps43
 go_wp2_with fail
 have HBl:=hi_ (Below.refl w.heap.size w);have HOl:Hid (mv_ w.heap.size w (.slice none (da_ M.m i 0).length 0) (da_ M.m i 0)):=hi_ (World.ownsRow_nil _ _ _ _)
 go_loopw [5,6] (fun v5 v6 wr=>∃(q:Nat) (go:Option Addr) (gc:Nat),v5=.slice go (da_ M.m i q).length gc/\v6=.int .i64 (q:Nat)/\q<=S+1/\Hid (Below w.heap.size w wr)/\Hid (mv_ w.heap.size wr (.slice go (da_ M.m i q).length gc) (da_ M.m i q))) (fun _ v6 _=>S+1-(aN_ v6).toNat)
 case atStart=>exact⟨0,none,0,rfl,rfl,by omega,HBl,HOl⟩
 case round=>
  obtain⟨q,go,gc,rfl,rfl,hq0,HB,HO⟩:=hrel;have Q1:=hi_ (QS.out wr HB.out);clear HBl HOl
  by_cases hq:q=S+1
  ·have HF:Hid (wk=da_ M.m i q):=hi_ (by rw[HE.out,hq])
   generalize da_ M.m i q=pre at *;generalize hpl:pre.length=pl at *;clear hpl;have hnl:¬((q:Int)<=(S:Int)):=by omega
   clear hq;go_wp2_with fail
   refine Q1.out.mono ?_;rintro e w1 ⟨rfl,hb1⟩;have HB1:=bt_ HB hb1;have HO1:=hi_ (own_below HO.out hb1);clear hb1 Q1;go_wp2_with fail
   go_ret
   exact⟨_,rfl,HB1.out,by rw[HF.out];exact HO1.out⟩
  ·have hlt:(q:Int)<=(S:Int):=by omega
   have hq1:q+1<=S+1:=by omega
   have HWq:=hi_ (HWl.out (q+1) hq1);have HTk:=hi_ (HSt.out q);have HIq:=hi_ (HIn.out q);rw[HTk.out]at HWq;generalize hpre:da_ M.m i q=pre at *;generalize hpl:pre.length=pl at *;have HPl:=hi_ hpl;have wq:IntKind.i64.wrap ((q:Int)+1)=(q:Int)+1:=IntWalk.i64_in _ (by omega);have hplb:pl+1<=1000010000:=by
    have h9:=HWq.out;rw[List.length_append,List.length_append,hpl]at h9;simp at h9;omega
   clear hq hpre hpl;go_wp2_with fail
   refine Q1.out.mono ?_;rintro e w1 ⟨rfl,hb1⟩;have HB1:=bt_ HB hb1;have HO1:Hid (w1.ownsRow w.heap.size 30 2 (.slice go pl gc) pl (pre.flatMap ptV)):=hi_ (by
    have h1:=own_below HO.out hb1;unfold mv_ at h1;rw[HPl.out]at h1;exact h1)
   have hsz1:=HB1.out.size;clear hb1 Q1 HO HB;go_wp2_with (at_builtin;refine wpList_append_lies _ rfl _ _ 106 rfl w.heap.size 30 i0 _ 2 16 Tryz.underlying106 hi0 hz0 hz1 hz2 rfl (by decide) (.slice go pl gc) pl (pre.flatMap ptV) rfl (World.ownsRow.alloc HO1.out _) ⟨w1.heap.size,0,none⟩ 1 1 [.int .i64 i,.int .i64 q] rfl rfl (World.news_of_block (cs:=#[.int .i64 i,.int .i64 q]) (t:=30) (fr:=(0,0)) (heap_alloc_new w1 _)) (by simp[Value.oneCell']) (by omega) ?c4 ?c5 ?c6 (w1.heap.size+1) (by simp) ?_)
   case c4=>unfold maxLen;omega
   case c5=>omega
   case c6=>simp;omega
   intro gg cap5 w5 hown5 hgrow hat5 hlt5;have HB5:=hi_ ((HB1.out.alloc hsz1 _).grown hgrow (by simp;omega) (fun k hk=>(HO1.out.lt k hk).1));have HO5:Hid (mv_ w.heap.size w5 (.slice (some ⟨gg,0,none⟩) (pl+1) cap5) (pre++[(i,q)])):=hi_ (by
    unfold mv_ ac_;rw[List.length_append,HPl.out,List.flatMap_append];exact hown5)
   clear hown5 hgrow hat5 HO1 HB1 hsz1;obtain⟨c0,l0,l1⟩:=HTop.out w5 HB5.out;obtain⟨k0,_,_,_,_,k5,_⟩:=HKc.out w5 HB5.out;rw[HV.out]at k5;have hsz5:=HB5.out.size
   by_cases hk:kd<3
   ·have hk1:(kd:Int)<3:=by omega
    cases hx:l[q]? with
    |none=>
     have hle:=List.getElem?_eq_none_iff.1 hx;have hlq:¬(q:Int)<(l.length:Int):=by omega
     have HF:Hid (da_ M.m i (q+1)=pre++[(i,q)]):=hi_ (by rw[HTk.out,HIq.out,if_neg (by omega),hx];simp);clear hx hk hle;generalize l.length=ll at *;go_wp2_with fail
     go_roundw
     case rel=>
      have hln:(da_ M.m i (q+1)).length=pl+1:=by rw[HF.out,List.length_append,HPl.out];rfl
      refine⟨q+1,some ⟨gg,0,none⟩,cap5,by rw[hln],by go_num,by omega,HB5,hi_ ?_⟩;rw[hln,HF.out];exact HO5.out
     case measure=>simp[aN_];omega
    |some c=>
     have hil:q<l.length:=by
      rcases Nat.lt_or_ge q l.length with h2|h2
      ·exact h2
      ·rw[List.getElem?_eq_none h2]at hx;cases hx
     have hlq:(q:Int)<(l.length:Int):=by omega
     obtain⟨ao2,cap2,hv2,hcs⟩:=HC.out w5 HB5.out;rw[HV.out]at hv2;obtain⟨g,hao,hg1,hcell⟩:=hcs _ _ hx;injection hv2 with e1 e2 e3
     subst e1;subst hao;have Q3:=hi_ (IH.out _ (List.mem_of_getElem? hx) w5 HB5.out);have HF:Hid (da_ M.m i (q+1)=(pre++[(i,q)])++all M.m c):=hi_ (by rw[HTk.out,HIq.out,if_neg (by omega),hx]);have hcp:=HAp.out c;have hcsh:=HAs.out c (List.mem_of_getElem? hx);clear hcs e2 e3 hx hk hil;generalize l.length=ll at *;go_wp2_with fail
     refine Q3.out.mono ?_;rintro e w6 ⟨v6,rfl,hb6,hown6⟩;obtain⟨g6,cap6,hv6,hg6b,hg6l,hcap6⟩:=a1_ hown6 hcp;subst hv6;have HO6:=hi_ (own_below HO5.out hb6);have HB6:=bt_ HB5 hb6;have hc6:=ae_ hown6;have hsz6:=HB6.out.size;generalize hcl:(all M.m c).length=cl at *;have HCl:=hi_ hcl;clear hcl hb6 Q3 HO5 HB5;have HNw:Hid (∀j u,((all M.m c).flatMap ptV)[j]?=some u->w6.cell? ((⟨g6,0,none⟩:Addr).add j)=some u):=hi_ (fun j u hu=>by
      rw[ds_,Nat.zero_add];have hj:j<((all M.m c).flatMap ptV).length:=by
       rcases Nat.lt_or_ge j ((all M.m c).flatMap ptV).length with h2|h2
       ·exact h2
       ·rw[List.getElem?_eq_none h2]at hu;cases hu
      rw[(hc6.2.2.2 j hj).1,hu])
     have HO6':Hid (w6.ownsRow w.heap.size 30 2 (.slice (some ⟨gg,0,none⟩) (pl+1) cap5) (pl+1) ((pre++[(i,q)]).flatMap ptV)):=hi_ (by
      have h1:=HO6.out;unfold mv_ at h1;rw[List.length_append,HPl.out]at h1;exact h1)
     have HNl:Hid (((all M.m c).flatMap ptV).length=cl*2):=hi_ (by rw[bL_ iv_,HCl.out]);have HN1:=hi_ (one_ptV (all M.m c));clear hc6 hown6 HO6;have HXs:Hid ((da_ M.m i (q+1)).flatMap ptV=(pre++[(i,q)]).flatMap ptV++(all M.m c).flatMap ptV):=hi_ (by rw[HF.out,List.flatMap_append]);generalize (pre++[(i,q)]).flatMap ptV=xs at *;generalize (all M.m c).flatMap ptV=ys at *;go_wp2_with (at_builtin;refine wpList_append_lies _ rfl _ _ 106 rfl w.heap.size 30 i0 _ 2 16 Tryz.underlying106 hi0 hz0 hz1 hz2 rfl (by decide) (.slice (some ⟨gg,0,none⟩) (pl+1) cap5) (pl+1) xs rfl HO6'.out ⟨g6,0,none⟩ cl cap6 ys rfl HNl.out HNw.out HN1.out hcp ?d4 ?d5 ?d6 w6.heap.size rfl ?_)
     case d4=>unfold maxLen;omega
     case d5=>omega
     case d6=>omega
     intro g7 cap7 w7 hown7 hgrow hat7 hlt7;have HB7:=hi_ (HB6.out.grown hgrow hsz6 (fun k hk=>(HO6'.out.lt k hk).1));have HO7:=hi_ hown7;clear hown7 hgrow hat7 HO6' HNw;go_wp2_with fail
     go_roundw
     case rel=>
      have hln:(da_ M.m i (q+1)).length=pl+1+cl:=by rw[HF.out,List.length_append,List.length_append,HPl.out,HCl.out];rfl
      refine⟨q+1,some ⟨g7,0,none⟩,cap7,by rw[hln],by go_num,by omega,HB7,hi_ ?_⟩;unfold mv_ ac_;rw[hln,HXs.out];exact HO7.out
     case measure=>simp[aN_];omega
   ·have hk1:¬(kd:Int)<3:=by omega
    have HF:Hid (da_ M.m i (q+1)=pre++[(i,q)]):=hi_ (by rw[HTk.out,HIq.out,if_pos (by omega)];simp);clear hk;generalize l.length=ll at *;go_wp2_with fail
    go_roundw
    case rel=>
     have hln:(da_ M.m i (q+1)).length=pl+1:=by rw[HF.out,List.length_append,HPl.out];rfl
     refine⟨q+1,some ⟨gg,0,none⟩,cap5,by rw[hln],by go_num,by omega,HB5,hi_ ?_⟩;rw[hln,HF.out];exact HO5.out
    case measure=>simp[aN_];omega
theorem idx_hit{l:List (Nat×Nat)}{p:Nat×Nat}{q:Nat}(hq:q<l.length)(hp:l[q]=p)(hn:p∉l.take q):l.idxOf p=q:=by
 have h1:l=l.take q++l.drop q:=(List.take_append_drop q l).symm;have h2:l.drop q=p :: l.drop (q+1):=by rw[List.drop_eq_getElem_cons hq,hp]
 rw[h1,h2,List.idxOf_append,if_neg hn,List.idxOf_cons_self,List.length_take];omega
theorem kO_{l:List (Nat×Nat)}{p:Nat×Nat}{q:Nat}(hq:q<l.length)(hp:l[q]≠p)(hn:p∉l.take q):p∉l.take (q+1):=by
 rw[List.take_add_one,List.getElem?_eq_getElem hq];intro h
 rcases List.mem_append.1 h with h|h
 ·exact hn h
 ·simp at h;exact hp h.symm
theorem bdN{B:Nat}{a w:World}(h:Below B a w)(n:Nat):Below B a (w.drewN n):=h.trans ⟨rfl,rfl,rfl,nl_,fun _ _=>rfl⟩
theorem ptB{w:World}{g:Nat}{a b:Value}{t:TypeId}(h:Blk g #[a,b] t w):w.cell? ⟨g,0,none⟩=some a/\w.cell? ⟨g,1,none⟩=some b/\g<w.heap.size:=⟨(ad_ h).1 0,(ad_ h).1 1,h.lt⟩
theorem mFindP(v:Value)(l:List (Nat×Nat))(base:Nat)(p:Nat×Nat)(w:World)(h:mv_ base w v l)(hp:p∈l)(hl:l.length<=2000000000) :
  Calls Tryz.prog 44 #[v,.agg #[.int .i64 p.1,.int .i64 p.2]] w fun e w'=>e=.returned (.int .i64 (l.idxOf p:Nat))/\Below w.heap.size w w':=by
 have h0:0<l.length:=by
  rcases Nat.eq_zero_or_pos l.length with e|e
  ·rw[List.length_eq_zero_iff.1 e]at hp;cases hp
  ·exact e
 obtain⟨g,cap,hv,hgb,hgl,hcap⟩:=a1_ h h0;subst hv;have hb1:Below w.heap.size w (w.alloc (.cells #[.int .i64 p.1,.int .i64 p.2] 30)):=(Below.refl _ w).alloc (nl_) _;have HBx:=hi_ (Blk.new w #[.int .i64 p.1,.int .i64 p.2] 30);have HO:=hi_ (own_below h hb1);have HB:=hi_ hb1;have HP:=hi_ hp;have hgl2:=Nat.lt_of_lt_of_le hgl hb1.size;clear hb1 h hp hgb hcap hgl
 go_enter Tryz.func44,Tryz.ntmps44
 go_wp2_with fail
 have HBe:Hid (Below w.heap.size w (w.alloc (.cells #[.int .i64 p.1,.int .i64 p.2] 30))):=HB;generalize hw1:w.alloc (.cells #[.int .i64 p.1,.int .i64 p.2] 30)=w1 at *;have HB0:=hi_ (Below.refl w1.heap.size w1);have hll:l.length<=2000000000:=hl;clear hw1 HB
 go_loopw [5] (fun v5 wr=>∃q:Nat,v5=.int .i64 (q:Nat)/\q<=l.length/\Hid (Below w1.heap.size w1 wr)/\Hid (p∉l.take q)) (fun v5 _=>l.length-(aN_ v5).toNat)
 case atStart=>exact⟨0,rfl,Nat.zero_le _,HB0,hi_ (by simp)⟩
 case round=>
  obtain⟨q,rfl,hq0,HBr,HM⟩:=hrel;have hlt:q<l.length:=by
   rcases Nat.lt_or_ge q l.length with h2|h2
   ·exact h2
   ·exact absurd HP.out (by have h3:=HM.out;rwa [List.take_of_length_le h2]at h3)
  have hlq:(q:Int)<(l.length:Int):=by omega
  have hr:=own_below HO.out HBr.out;have hc0:=(ac_.cell iv_ hr hlt (k:=0) (by omega)).1;have hc1:=(ac_.cell iv_ hr hlt (k:=1) (by omega)).1;obtain⟨m0,m1,m2⟩:=ptB (HBx.out.below HBr.out);have wq:IntKind.i64.wrap ((q:Int)+1)=(q:Int)+1:=IntWalk.i64_in _ (by omega);have hgr:=Nat.lt_of_lt_of_le hgl2 HBr.out.size;have hit:=hi_ (fun hp=>idx_hit hlt hp HM.out);have miss:=hi_ (fun hp=>kO_ hlt hp HM.out);generalize l[q]=x at *;obtain⟨x1,x2⟩:=x;have k0:wr.cell? ⟨g,q*2,none⟩=some (.int .i64 x1):=hc0;have k1:wr.cell? ⟨g,q*2+1,none⟩=some (.int .i64 x2):=hc1;obtain⟨p1,p2⟩:=p;clear hc0 hc1 hr hlt HM HB0
  by_cases e1:x1=p1
  ·by_cases e2:x2=p2
   ·subst e1 e2
    have HR:=hi_ (hit.out rfl);clear hit miss;go_upto_region 4 with fail
    go_quiet (fail)
    have HBq:=hi_ (bdN (HBe.out.trans (HBr.out.mono HBe.out.size)) nq);generalize wr.drewN nq=wd at *;go_wp2_with fail
    go_ret
    exact⟨ay_ (by rw[HR.out]),HBq.out⟩
   ·have b2:((x2:Int)==(p2:Int))=false:=bn_ (by omega)
    have b3:¬(x2:Int)=(p2:Int):=by omega
    subst e1;have HR:=hi_ (miss.out (fun e=>e2 (by injection e)));clear hit miss e2;go_upto_region 4 with fail
    go_quiet (fail)
    have HBq:=hi_ (bdN HBr.out nq);generalize wr.drewN nq=wd at *;go_wp2_with fail
    go_roundw
    case rel=>exact⟨q+1,by go_num,by omega,HBq,HR⟩
    case measure=>simp[aN_];omega
  ·have b2:((x1:Int)==(p1:Int))=false:=bn_ (by omega)
   have b3:¬(x1:Int)=(p1:Int):=by omega
   have HR:=hi_ (miss.out (fun e=>e1 (by injection e)));clear hit miss e1;go_upto_region 4 with fail
   go_quiet (fail)
   have HBq:=hi_ (bdN HBr.out nq);generalize wr.drewN nq=wd at *;go_wp2_with fail
   go_roundw
   case rel=>exact⟨q+1,by go_num,by omega,HBq,HR⟩
   case measure=>simp[aN_];omega
theorem m4_(M:aF_)(a b:Nat×Nat)(w:World)(h:ab_ w M)(W:WF M.m)(hD:Whole M.m)(hfw:M.m.length<=10000)(ha:cU_ M.m a)(hb:cU_ M.m b)(ht:top M.m a.1=top M.m b.1) :
  Calls Tryz.prog 16 #[.pointer (some ⟨M.mb,0,none⟩),.agg #[.int .i64 a.1,.int .i64 a.2],.agg #[.int .i64 b.1,.int .i64 b.2]] w fun e w'=>e=.returned (.int .i64 (gz_ M.m a b))/\Below w.heap.size w w':=by
 obtain⟨l,hl⟩:∃l,l=all M.m (top M.m a.1):=⟨_,rfl⟩;have hlt:=W.top_lt _ ha.1;have hma:a∈l:=by rw[hl];exact(W.mem_all _ hlt).2 ⟨W.top_contains _,ha⟩
 have hmb:b∈l:=by rw[hl];exact(W.mem_all _ hlt).2 ⟨by rw[ht];exact W.top_contains _,hb⟩
 have hll:=f6_ W hD hfw hlt;have HR:Hid (gz_ M.m a b=if l.idxOf a<l.idxOf b then -1 else min (((l.idxOf a:Nat):Int)-((l.idxOf b:Nat):Int)) 1):=hi_ (by rw[hl];rfl);have hia:=List.idxOf_lt_length_of_mem hma;have hib:=List.idxOf_lt_length_of_mem hmb;have QT:=hi_ (fun W1 (hb:Below w.heap.size w W1)=>mTop M a.1 W1 (h.below hb) W (by rw[<-M.m_len];exact ha.1));have QA:=hi_ (fun W1 (hb:Below w.heap.size w W1)=>mAll M W1 (h.below hb) W hD hfw _ (top M.m a.1) W1 (br_) (nl_) (by rw[<-M.m_len];exact hlt));rw[<-hl]at hll;have hll2:l.length<=2000000000:=by omega
 have QF:=hi_ (fun v base p W1 (ho:mv_ base W1 v l) (hp:p∈l)=>mFindP v l base p W1 ho hp hll2);rw[<-hl]at QA;generalize gz_ M.m a b=R at *;generalize top M.m a.1=tp at *;have HMa:=hi_ hma;have HMb:=hi_ hmb;obtain⟨a1,a2⟩:=a;obtain⟨b1,b2⟩:=b;have hb2:Below w.heap.size w ((w.alloc (.cells #[.int .i64 a1,.int .i64 a2] 30)).alloc (.cells #[.int .i64 b1,.int .i64 b2] 30)):=((Below.refl w.heap.size w).alloc (nl_) _).alloc (by simp) _;have HA2:=hi_ ((Blk.new w #[.int .i64 a1,.int .i64 a2] 30).below ((br_).alloc (nl_) (.cells #[.int .i64 b1,.int .i64 b2] 30)));have HC2:=hi_ (Blk.new (w.alloc (.cells #[.int .i64 a1,.int .i64 a2] 30)) #[.int .i64 b1,.int .i64 b2] 30);rw[World.size_alloc]at HC2
 have HB2:=hi_ hb2;clear hb2 h W hD hfw ha hb ht hl hlt hma hmb hll
 go_enter Tryz.func16,Tryz.ntmps16
 go_wp2_with fail
 generalize (w.alloc (.cells #[.int .i64 a1,.int .i64 a2] 30)).alloc (.cells #[.int .i64 b1,.int .i64 b2] 30)=w2 at *;obtain⟨m0,_,m2⟩:=ptB HA2.out;refine(QT.out w2 HB2.out).mono ?_;rintro e w2' ⟨rfl,rfl⟩;clear QT;go_wp2_with fail
 refine(QA.out w2 HB2.out).mono ?_;rintro e w3 ⟨v,rfl,hb3,hown⟩;have HA3:=hi_ (HA2.out.below hb3);have HC3:=hi_ (HC2.out.below hb3);have HB3:=bt_ HB2 hb3;have HO3:=hi_ hown;have QFa:=hi_ (fun W1 (hb:Below w3.heap.size w3 W1)=>QF.out _ _ _ W1 (own_below hown hb) HMa.out);have QFb:=hi_ (fun W1 (hb:Below w3.heap.size w3 W1)=>QF.out _ _ _ W1 (own_below hown hb) HMb.out);obtain⟨m0,m1,m2⟩:=ptB HA3.out;obtain⟨j0,j1,j2⟩:=ptB HC3.out;clear QA QF hb3 hown;have D0:=lc_ m0 m2;have D1:=lc_ m1 m2;have E0:=lc_ j0 j2;have E1:=lc_ j1 j2;go_upto_region 2 with fail
 refine af_ (by kernel_rfl) (by kernel_rfl) ?_;repeat (go_big_quiet_step (first|(go_at_call_of 44 (Value.agg #[.int .i64 a1,.int .i64 a2]);exact Calls.later (QFa.out _ (Later.h _)))|(go_at_call_of 44 (Value.agg #[.int .i64 b1,.int .i64 b2]);exact Calls.later (QFb.out _ (Later.h _)))))
 refine wq_ (fun dq=>?_);have HB4:=bt_ HB3 dq.h;generalize dq.w=w4 at *;clear dq D0 D1 E0 E1 m0 m1 m2 j0 j1 j2 QFa QFb;generalize l.idxOf (a1,a2)=x at *;generalize l.idxOf (b1,b2)=y at *
 by_cases hxy:x<y
 ·have HF:Hid (R=-1):=hi_ (by rw[HR.out,if_pos hxy])
  have hxy2:(x:Int)<(y:Int):=by omega
  clear HR hxy;go_wp2_with fail
  go_ret
  exact⟨ay_ (by rw[HF.out]),HB4.out⟩
 ·have hxy2:¬(x:Int)<(y:Int):=by omega
  have HF:Hid (R=min ((x:Int)-(y:Int)) 1):=hi_ (by rw[HR.out,if_neg hxy]);have wq:IntKind.i64.wrap ((x:Int)-(y:Int))=(x:Int)-(y:Int):=IntWalk.i64_in _ (by omega);clear HR hxy;go_wp2_with fail
  go_ret
  exact⟨ay_ (by rw[HF.out]),HB4.out⟩
theorem ls_(M:aF_)(name data:List UInt8)(v:Value)(l:List BB)(base:Nat)(w:World)(hM:ab_ w M)(hav:ac_ ai_ base 143 2 w v l)(hll:l.length<=60)(hls:∀a,a∈l->a.1.length<=1000/\a.2.length<=1000)(hnm:name.length<=100000)(hlen:M.nodes.length<100000) :
  Calls Tryz.prog 59 #[.pointer (some ⟨M.mb,0,none⟩),.int .i64 2,.string ⟨name.toArray⟩,.string ⟨data.toArray⟩,v] w fun e w'=>iZ_ w M e w' (make M.m 2 name data l):=by
 have HM:=hi_ hM;obtain⟨vo,vcap,hv⟩:=ac_.slice hav;subst hv;have HAv:=hi_ hav;obtain⟨R,hR⟩:∃R,R=make M.m 2 name data l:=⟨_,rfl⟩;have HRr:Hid (R=if dp_ name && aW_ l []then some (M.m++[⟨2,name,l.map hm_,[],none,[],false⟩])else none):=hi_ (by rw[hR];unfold make;rw[if_pos rfl];rfl);rw[<-hR];have QE:=hi_ (fun W=>m3_ name W hnm);have QH:=hi_ (fun(s:List UInt8) (hs:s.length<=1000) W=>lv_ s W (by omega));have QR:=hi_ (fun(s:List UInt8) (hs:s.length<=1000) W=>df_ s W (by omega));have hb1:=(Below.refl w.heap.size w).alloc (nl_) (.cells #[.int .i64 2,.string ⟨#[]⟩,.slice none 0 0,.string ⟨#[]⟩,.int .i64 (-1),.slice none 0 0,.bool false] 105);have HB1:=hi_ hb1
 have HX1:=hi_ (Blk.new w #[.int .i64 2,.string ⟨#[]⟩,.slice none 0 0,.string ⟨#[]⟩,.int .i64 (-1),.slice none 0 0,.bool false] 105);have HLs:=hi_ hls;clear hM hb1 hR hav hls
 go_enter Tryz.func59,Tryz.ntmps59
 go_wp2_with fail
 generalize w.alloc (.cells #[.int .i64 2,.string ⟨#[]⟩,.slice none 0 0,.string ⟨#[]⟩,.int .i64 (-1),.slice none 0 0,.bool false] 105)=w1 at *;refine(QE.out w1).mono ?_;rintro e w2 ⟨rfl,hb2⟩;have HX2:=hi_ (HX1.out.below hb2);have HB2:=bt_ HB1 hb2;clear hb2 QE HX1 HB1
 cases he:dp_ name with
 |false=>
  have HRs:Hid (R=none):=hi_ (by rw[HRr.out,he];rfl);clear he HRr;go_wp2_with fail
  refine bodyPost_ret (v:=.int .i64 1) (by simp[results,Tryz.results59,go_sem]) rfl ?_;rw[HRs.out];exact⟨M,rfl,H.Frame.of HB2.out,HM.out.below HB2.out,rfl,aO_.refl _ _⟩
 |true=>
  have HRr2:Hid (R=if aW_ l []then some (M.m++[⟨2,name,l.map hm_,[],none,[],false⟩])else none):=hi_ (by rw[HRr.out,he];rfl);have HA0:Hid (aW_ l []=aW_ (l.drop 0) ((l.take 0).map (·.1))):=hi_ rfl;clear he HRr;go_wp2_with fail
  go_loopw [12] (fun v12 wr=>∃(i:Nat) (bo:Option Addr) (bcap:Nat),v12=.int .i64 (i:Nat)/\i<=l.length/\Hid (Below w.heap.size w wr)/\Hid (Blk w.heap.size #[.int .i64 2,.string ⟨#[]⟩,.slice bo i bcap,.string ⟨#[]⟩,.int .i64 (-1),.slice none 0 0,.bool false] 105 wr)/\Hid (wr.ownsRow w.heap.size 143 2 (.slice bo i bcap) i (((l.take i).map hm_).flatMap ai_))/\Hid (aW_ l []=aW_ (l.drop i) ((l.take i).map (·.1))))
   (fun v12 _=>l.length-(aN_ v12).toNat)
  case atStart=>exact⟨0,none,0,rfl,Nat.zero_le _,HB2,HX2,hi_ ⟨rfl,Or.inl ⟨rfl,rfl⟩⟩,HA0⟩
  case round=>
   obtain⟨i,bo,bcap,rfl,hi,HB,HX,HO,HA⟩:=hrel;clear HA0 HX2 HB2
   rcases Nat.lt_or_ge i l.length with hlt|hge
   ·obtain⟨g0,cap',hv,hg0b,hg0l,_⟩:=a1_ HAv.out (by omega)
    injection hv with e1 _ e3
    subst e1 e3;have HA2:Hid (ac_ ai_ base 143 2 wr (.slice (some ⟨g0,0,none⟩) l.length vcap) l):=hi_ (own_below HAv.out HB.out);have hgl:=(ae_ HA2.out).1;have hc0:=(ac_.cell aq_ HA2.out hlt (k:=0) (by omega)).1;have hc1:=(ac_.cell aq_ HA2.out hlt (k:=1) (by omega)).1;have HTk:Hid (((l.take (i+1)).map hm_).flatMap ai_=((l.take i).map hm_).flatMap ai_++ai_ (hm_ l[i])):=hi_ (by
     rw[List.take_add_one,List.getElem?_eq_getElem hlt,List.map_append,List.flatMap_append];simp)
    have hok:=ok_from l i hlt ((l.take i).map (·.1));rw[k1_ l i hlt]at hok;have HOk:=hi_ hok;have HSn:=hi_ (fun x h=>mG_ l i x h);have HSy:=hi_ (fun k hk hkl x h=>mF_ l i k hk hkl x h);have hsh:=HLs.out l[i] (List.getElem_mem hlt);generalize hli:l[i]=a at *;obtain⟨nm,vl⟩:=a;have HIl:=hi_ hli;clear hli;have k0:wr.cell? ⟨g0,i*2,none⟩=some (.string ⟨nm.toArray⟩):=hc0;have k1:wr.cell? ⟨g0,i*2+1,none⟩=some (.string ⟨vl.toArray⟩):=hc1;have hii:(i:Int)<(l.length:Int):=by omega
    have p0:(0:Int)<=(i:Int):=by omega
    have hsh1:nm.length<=1000:=hsh.1;have hsh2:vl.length<=1000:=hsh.2;have HK1:=hi_ k1;have Q4:=hi_ (QH.out nm hsh1 wr);clear hc0 hc1 hok hsh k1;go_wp2_with fail
    refine Q4.out.mono ?_;rintro e w4 ⟨rfl,hb4⟩;have HB4:=bt_ HB hb4;have HX4:=hi_ (HX.out.below hb4);have HO4:=hi_ (own_below HO.out hb4);have HA4:Hid (ac_ ai_ base 143 2 w4 (.slice (some ⟨g0,0,none⟩) l.length vcap) l):=hi_ (own_below HA2.out hb4);have hgl4:=Nat.lt_of_lt_of_le hgl hb4.size;clear k0 hgl hb4 Q4 HB HX HO HA2 HK1
    cases hho:bK_ nm with
    |false=>
     have HRs:Hid (R=none):=hi_ (by rw[HRr2.out,HA.out,HOk.out,hho];rfl);clear hho;go_wp2_with fail
     refine bodyPost_ret (v:=.int .i64 1) (by simp[results,Tryz.results59,go_sem]) rfl ?_;rw[HRs.out];exact⟨M,rfl,H.Frame.of HB4.out,HM.out.below HB4.out,rfl,aO_.refl _ _⟩
    |true=>
     have HOk2:Hid (aW_ l []=(!((l.take i).map (·.1)).contains nm && aW_ (l.drop (i+1)) ((l.take (i+1)).map (·.1)))):=hi_ (by rw[HA.out,HOk.out,hho,Bool.true_and]);clear hho HOk HA;go_wp2_with fail
     have hwq:IntKind.i64.wrap ((i:Int)+1)=(i:Int)+1:=IntWalk.i64_in _ (by omega);have HB40:=hi_ (Below.refl w4.heap.size w4)
     go_loopw [13] (fun v13 wi=>∃k:Nat,v13=.int .i64 (k:Nat)/\k<=i/\Hid (Below w4.heap.size w4 wi)/\Hid (∀j a,j<k->l[j]?=some a->(a.1==nm)=false)) (fun v13 _=>i-(aN_ v13).toNat)
     case atStart=>exact⟨0,rfl,Nat.zero_le _,HB40,hi_ (fun j a hj=>by omega)⟩
     case round=>
      obtain⟨k,rfl,hk0,HBi,HN⟩:=hrel;have HAi:=hi_ (own_below HA4.out HBi.out);have hgli:=Nat.lt_of_lt_of_le hgl4 HBi.out.size;have hc0:=(ac_.cell aq_ HAi.out hlt (k:=0) (by omega)).1;rw[HIl.out]at hc0;have k0:wr.cell? ⟨g0,i*2,none⟩=some (.string ⟨nm.toArray⟩):=hc0;clear hc0
      rcases Nat.lt_or_ge k i with hki|hki
      ·have hkl:k<l.length:=by omega
       have hc0:=(ac_.cell aq_ HAi.out hkl (k:=0) (by omega)).1;have HSy2:=hi_ (HSy.out k hki hkl nm);have HG:Hid (l[k]?=some l[k]):=hi_ (List.getElem?_eq_getElem hkl);generalize l[k]=b at *;obtain⟨x,y⟩:=b;have j0:wr.cell? ⟨g0,k*2,none⟩=some (.string ⟨x.toArray⟩):=hc0;have hkk:(k:Int)<(i:Int):=by omega
       have hkk2:(k:Int)<(l.length:Int):=by omega
       have q0:(0:Int)<=(k:Int):=by omega
       have wq:IntKind.i64.wrap ((k:Int)+1)=(k:Int)+1:=IntWalk.i64_in _ (by omega);have heq:((⟨x.toArray⟩:ByteArray).toList==(⟨nm.toArray⟩:ByteArray).toList)=(x==nm):=by rw[Lib.toList_data,Lib.toList_data]
       generalize (⟨x.toArray⟩:ByteArray)=X at *;generalize hSe:(⟨nm.toArray⟩:ByteArray)=S at *;clear hc0;go_upto_region 13 with fail
       cases hq:(x==nm) with
       |true=>
        rw[hq]at heq;have HRs:Hid (R=none):=hi_ (by rw[HRr2.out,HOk2.out,HSy2.out hq];rfl);clear hq HOk2 HSy2
        go_quiet (fail)
        have HBq:=hi_ (bdN (HB4.out.trans (HBi.out.mono HB4.out.size)) nq);generalize wr.drewN nq=wd at *;go_wp2_with fail
        refine bodyPost_ret (v:=.int .i64 1) (by simp[results,Tryz.results59,go_sem]) rfl ?_;rw[HRs.out];exact⟨M,rfl,H.Frame.of HBq.out,HM.out.below HBq.out,rfl,aO_.refl _ _⟩
       |false=>
        rw[hq]at heq;have HN2:Hid (∀j a,j<k+1->l[j]?=some a->(a.1==nm)=false):=hi_ (fun j a hj ha=>by
         rcases Nat.lt_or_ge j k with h|h
         ·exact HN.out j a h ha
         ·have e:j=k:=by omega
          subst e;rw[HG.out]at ha;injection ha with ha
          rw[<-ha];exact hq)
        clear hq HSy2
        go_quiet (fail)
        have HBq:=hi_ (bdN HBi.out nq);generalize wr.drewN nq=wd at *;go_wp2_with fail
        go_roundw
        case rel=>exact⟨k+1,by go_num,by omega,HBq,HN2⟩
        case measure=>simp[aN_];omega
      ·have hke:k=i:=by omega
       subst hke;have HBw:=bt_ HB4 HBi.out;have HXw:=hi_ (HX4.out.below HBi.out);have HOw:=hi_ (own_below HO4.out HBi.out);have hc1:=(ac_.cell aq_ HAi.out hlt (k:=1) (by omega)).1;rw[HIl.out]at hc1;have k1:wr.cell? ⟨g0,k*2+1,none⟩=some (.string ⟨vl.toArray⟩):=hc1;have HOk3:Hid (aW_ l []=aW_ (l.drop (k+1)) ((l.take (k+1)).map (·.1))):=hi_ (by rw[HOk2.out,HSn.out nm HN.out];rfl);obtain⟨⟨_,_,x2,_⟩,⟨_,fx2,_⟩⟩:=eM_ HXw.out;have hlX:=HXw.out.lt;have hnl:¬(k:Int)<(k:Int):=by omega
       have HlX:=hi_ hlX;have Hgl:=hi_ hgli;have HK0:=hi_ k0;have HX2c:=hi_ x2;have HNo:=hi_ (ak_ HOw.out HXw.out (by decide));obtain⟨i0,hi0,hz0,hz1,hz2⟩:=info_parts eC_;have HBd:=hi_ (Below.refl wr.heap.size wr).drew;clear hc1 HOk2 HSn HSy HN HX4 HO4 HB4 HA4 hgl4 HB40 hki hk0;go_upto_region 15 with fail
       go_region_law
        (first
         | (go_simp
            go_at_call 113
            refine(QR.out vl hsh2 _).mono ?_;rintro e w6 ⟨rfl,b6⟩;have HB6:=bt_ HBd b6;have hs6:=HB6.out.size;have hlE6:g0<w6.heap.size:=Nat.lt_of_lt_of_le Hgl.out hs6;have hlX6:w.heap.size<w6.heap.size:=Nat.lt_of_lt_of_le HlX.out hs6;have e60:=(HB6.out.cell (p:=⟨g0,k*2,none⟩) Hgl.out).trans HK0.out;have e62:=(HB6.out.cell (p:=⟨w.heap.size,2,none⟩) HlX.out).trans HX2c.out;clear b6 hs6
            go_simp)
         | (with_reducible refine bk_ (w6.alloc (.cells #[.string ⟨nm.toArray⟩, .string ⟨(U.rep vl).toArray⟩] 143)) ?_
            refine step_append_lies _ (by rfl) _ _ 103 (by rfl) w.heap.size 143 i0 _ 2 32 Tryz.underlying103 hi0 hz0 hz1 hz2 rfl (by omega) (.slice bo k bcap) k (((l.take k).map hm_).flatMap ai_) (by rfl) (World.ownsRow.alloc (own_below HOw.out HB6.out) _) ⟨w6.heap.size,0,none⟩ 1 1 [.string ⟨nm.toArray⟩,.string ⟨(U.rep vl).toArray⟩] (by rfl) (by rfl) (World.news_of_block (cs:=#[.string ⟨nm.toArray⟩,.string ⟨(U.rep vl).toArray⟩]) (heap_alloc_new w6 (.cells #[.string ⟨nm.toArray⟩,.string ⟨(U.rep vl).toArray⟩] 143))) (by simp[Value.oneCell']) (by omega) (by unfold maxLen;omega) (by omega) (by have:=HB6.out.size;have:=HBw.out.size;simp<;>omega) (w6.heap.size+1) (by simp) ?_;intro gg cap2 w7 hown7 hgrow hat hlt7
            have hbk:Blk w.heap.size #[.int .i64 2,.string ⟨#[]⟩,.slice bo k bcap,.string ⟨#[]⟩,.int .i64 (-1),.slice none 0 0,.bool false] 105 w7:=(hgrow.block w.heap.size (by have:=HB6.out.size;have:=HlX.out;simp<;>omega) (fun h=>HNo.out h.symm)).trans ((HXw.out.below HB6.out).alloc _);obtain⟨⟨_,_,e72,_⟩,⟨_,g72,_⟩⟩:=eM_ hbk;have hltb:=hbk.lt))
       all_goals (
        have hs6:=HB6.out.size;have hsE:=HBw.out.size;have HB7:=hi_ (((HBw.out.trans (HB6.out.mono hsE)).alloc (by omega) _).grown hgrow (by simp;omega) (fun k e=>(HOw.out.lt k e).1));have HX8:=hi_ (Blk.n2 hbk (.slice (some ⟨gg,0,none⟩) (k+1) cap2));have HB8:=hi_ (HB7.out.setCell (p:=⟨w.heap.size,2,none⟩) (nl_) (.slice (some ⟨gg,0,none⟩) (k+1) cap2));have HO8:=hi_ (bi_ hown7 hbk (by decide) 2 (.slice (some ⟨gg,0,none⟩) (k+1) cap2));have HO9:Hid (World.ownsRow (w7.setCell ⟨w.heap.size,2,none⟩ (.slice (some ⟨gg,0,none⟩) (k+1) cap2)) w.heap.size 143 2 (.slice (some ⟨gg,0,none⟩) (k+1) cap2) (k+1) (((l.take (k+1)).map hm_).flatMap ai_)):=hi_ (by rw[HTk.out];exact HO8.out);clear HO8 HB7 hown7 hgrow hat hbk;go_wp2_with fail
        go_roundw
        case rel=>exact⟨k+1,some ⟨gg,0,none⟩,cap2,by go_num,by omega,HB8,HX8,HO9,HOk3⟩
        case measure=>simp[aN_];omega)
   ·have hie:i=l.length:=by omega
    subst hie;have hnot:¬((l.length:Nat):Int)<((l.length:Nat):Int):=by omega
    obtain⟨x,hx⟩:∃x:bX_,x=⟨⟨2,name,l.map hm_,[],none,[],false⟩,.slice bo l.length bcap,.slice none 0 0⟩:=⟨_,rfl⟩;have HXe:=hi_ hx;have HRs:Hid (R=some (M.m++[x.n])):=hi_ (by
     rw[HRr2.out,HA.out,List.drop_length,aW_,if_pos rfl,hx])
    have HA3:Hid (ac_ ai_ w.heap.size 143 2 wr x.av x.n.attrs):=hi_ (by
     have h1:=HO.out;rw[List.take_length]at h1;rw[hx];unfold ac_;dsimp only;rw[List.length_map];exact h1)
    have HNc:Hid (bS_ x=[.int .i64 2,.string ⟨name.toArray⟩,.slice bo l.length bcap,.string ⟨#[]⟩,.int .i64 (-1),.slice none 0 0,.bool false]):=hi_ (by rw[hx];rfl);obtain⟨_,⟨f1,_,_⟩⟩:=eM_ HX.out;have hlX:=HX.out.lt;have HX3:=hi_ (Blk.n1 HX.out (.string ⟨name.toArray⟩));have HB3:=hi_ (HB.out.setCell (p:=⟨w.heap.size,1,none⟩) (nl_) (.string ⟨name.toArray⟩));have HA4:Hid (ac_ ai_ w.heap.size 143 2 (World.setCell wr ⟨w.heap.size,1,none⟩ (.string ⟨name.toArray⟩)) x.av x.n.attrs):=hi_ (bi_ HA3.out HX.out (by decide) 1 _);clear hx HRr2 HA HO HA3 HX HB QH QR;go_upto_region 18 with fail
    generalize World.setCell wr ⟨w.heap.size,1,none⟩ (.string ⟨name.toArray⟩)=w3 at *;have HM3:=hi_ (HM.out.below HB3.out);obtain⟨c0,l0,l1⟩:=HM3.out.top;obtain⟨⟨a0,a1,a2,a3,a4,a5,a6⟩,_⟩:=eM_ HX3.out;have hlX3:=HX3.out.lt;have HE:=hi_ (fun w' g cap f hr hg=>g2_ (w0:=w) (w:=w3) (w':=w') (M:=M) (x:=x) (g:=g) (cap:=cap) HM3.out HB3.out HM.out f (by omega) hr hg (by rw[HXe.out]) (by rw[HXe.out]));have hbb:=HM.out.bb;have hml:=HM.out.blk.lt;have hws:=HB3.out.size;have hfew:=HM.out.few;have hgm:M.mb≠M.g:=fun e=>ak_ HM3.out.row HM3.out.blk (by decide) (by rw[e];rfl);have hga:∀k,x.av.ownBlock=some k->k≠M.g:=fun k hk e=>by
     have h1:=(World.ownsRow.lt HA4.out k hk).1;have h2:=(ae_ HM.out.row).1;omega
    have HGm:=hi_ hgm;have HGa:=hi_ hga;obtain⟨i0,hi0,hz0,hz1,hz2⟩:=info_parts fR_;clear hgm hga
    go_region_law ((refine step_append_lies _ (by rfl) _ _ _ (by rfl) M.B 105 i0 _ 7 104 Tryz.underlying100 hi0 hz0 hz1 hz2 rfl (by omega) (.slice (some ⟨M.g,0,none⟩) M.nodes.length M.cap) M.nodes.length (M.nodes.flatMap bS_) (by rfl) ((World.ownsRow.alloc HM3.out.row _).drew) ⟨w3.heap.size,0,none⟩ 1 1 [.int .i64 2,.string ⟨name.toArray⟩,.slice bo l.length bcap,.string ⟨#[]⟩,.int .i64 (-1),.slice none 0 0,.bool false] (by rfl) (by rfl) (World.news_of_block (cs:=#[.int .i64 2,.string ⟨name.toArray⟩,.slice bo l.length bcap,.string ⟨#[]⟩,.int .i64 (-1),.slice none 0 0,.bool false]) (t:=105) (fr:=(0,0)) (heap_alloc_new w3 _)) (by simp[Value.oneCell']) (by omega) (by unfold maxLen;omega) (by omega) (by simp;omega) (w3.heap.size+1) (by simp) ?_;intro gg cap2 w5 hown5 hgrow hat5 hlt5;have hF5:H.Frame (fun k=>k=M.g) w3 w5:=H.Frame.grown (S:=fun k=>k=M.g) (Frame.drew (Frame.alloc (H.Frame.refl _ w3) _)) hgrow (fun k hk=>Or.inl (by have hk:some M.g=some k:=hk;injection hk with hk;exact hk.symm));have hb5:=HM3.out.blk.frame hF5 HGm.out;have d0:=(ad_ hb5).1 0;have m0:=hb5.lt;have g0:=(ad_ hb5).2 0 (by simp)))
    all_goals (
     have hA5:=ah_ HA4.out hF5 HGa.out;have hfin:=HE.out w5 gg cap2 hF5 (by rw[HNc.out];exact hown5) (hat5.imp (fun e=>by have e:some M.g=some gg:=e;injection e) (fun e=>by omega)) hA5;have HFin:=hi_ hfin;clear hfin hA5 hown5 hgrow hat5 hF5 hb5;go_wp2_with fail
     refine bodyPost_ret (v:=.int .i64 0) (by simp[results,Tryz.results59,go_sem]) rfl ?_;rw[HRs.out];exact⟨_,rfl,HFin.out.2.1,HFin.out.1,app_m M x gg cap2,HFin.out.2.2⟩)
end R
end
end Go.Proofs.YtinphfpdfodkkaaGreatDoor
