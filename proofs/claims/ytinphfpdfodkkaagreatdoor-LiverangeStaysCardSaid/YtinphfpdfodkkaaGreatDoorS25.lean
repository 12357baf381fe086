/- Texts. -/
import Derived.Test.YtinphfpdfodkkaaGreatDoorS24
import Derived.Test.YtinphfpdfodkkaaGreatDoorS23
set_option linter.unusedVariables false
set_option linter.unusedSimpArgs false
set_option maxHeartbeats 8000000
set_option maxRecDepth 100000
namespace Go.Proofs.YtinphfpdfodkkaaGreatDoor
section
open Go.RowKit Go.Sort
namespace R
open H G A
theorem ni_(M:aJ_)(x:b0_)(g cap j:Nat):(({ M with g:=g,cap:=cap,nodes:=M.nodes++[x] }:aJ_).at_ j)=if j=M.nodes.length then x else M.at_ j:=by
 unfold aJ_.at_;show(M.nodes++[x]).getD j pb_=_;rw[List.getD_eq_getElem?_getD,List.getD_eq_getElem?_getD]
 rcases Nat.lt_trichotomy j M.nodes.length with h|h|h
 ·rw[if_neg (by omega),List.getElem?_append_left h]
 ·rw[if_pos h,h,List.getElem?_append_right (nl_),Nat.sub_self];rfl
 rw[if_neg (by omega),List.getElem?_eq_none (by simp;omega),List.getElem?_eq_none (by omega)]
theorem ac_.push{w w':World}{M:aJ_}{x:b0_}{g cap:Nat}(h:ac_ w M)(f:H.Frame (fun k=>k=M.g) w w')(hlen:M.nodes.length<1000000)
  (hr:w'.ownsRow M.B 105 7 (.slice (some ⟨g,0,none⟩) (M.nodes.length+1) cap) (M.nodes.length+1) (M.nodes.flatMap bU_++bU_ x))
  (hk:cd_ M.B w' x.kv x.n.kids) (ha:ab_ aj_ M.B 143 2 w' x.av x.n.attrs)
  (hk2:∀j,j<M.nodes.length->∀g,x.kv.ownBlock=some g->(M.at_ j).kv.ownBlock≠some g) (ha2:∀j,j<M.nodes.length->∀g,x.av.ownBlock=some g->(M.at_ j).av.ownBlock≠some g) :
  ac_ (w'.setCell ⟨M.mb,0,none⟩ (.slice (some ⟨g,0,none⟩) (M.nodes.length+1) cap)) { M with g:=g,cap:=cap,nodes:=M.nodes++[x] }:=by
 have hb:=h.blk.frame f (fun e=>ai_ h.row h.blk (by decide) (by rw[e];rfl));have hfar:∀{B:Nat} {e:TypeId} {size n:Nat} {v:Value} {xs:List Value},w'.ownsRow B e size v n xs->e≠102->World.ownsRow (w'.setCell ⟨M.mb,0,none⟩ (.slice (some ⟨g,0,none⟩) (M.nodes.length+1) cap)) B e size v n xs:=fun h1 h2=>au_ h1 (ai_ h1 hb h2) _ _;have hold:∀{B:Nat} {e:TypeId} {size n:Nat} {v:Value} {xs:List Value},w.ownsRow B e size v n xs->e≠105->w'.ownsRow B e size v n xs:=fun h1 h2=>ak_ h1 f (fun k hk e=>aQ_ h1 h.row h2 hk (by rw[e];rfl));refine⟨?_,?_,by simp;omega,h.bb,fun y hy=>?_,fun y hy=>?_,fun i j hi hj hne k hk1=>?_,fun i j hi hj hne k hk1=>?_⟩
 ·have h9:=hb.set 0 (.slice (some ⟨g,0,none⟩) (M.nodes.length+1) cap)
  simp only[List.setIfInBounds_toArray,List.set_cons_zero]at h9;simpa using h9
 ·have h9:=hfar hr (by decide)
  unfold ab_;simpa using h9
 ·rcases List.mem_append.1 hy with hy|hy
  ·exact hfar (hold (h.kids y hy) (by decide)) (by decide)
  rw[List.mem_singleton.1 hy];exact hfar hk (by decide)
 ·rcases List.mem_append.1 hy with hy|hy
  ·exact hfar (hold (h.attrs y hy) (by decide)) (by decide)
  rw[List.mem_singleton.1 hy];exact hfar ha (by decide)
 ·have hi:i<(M.nodes++[x]).length:=hi
  have hj:j<(M.nodes++[x]).length:=hj;simp at hi hj;rw[ni_]at hk1 ⊢
  by_cases ei:i=M.nodes.length
  ·rw[if_pos ei]at hk1
   rw[if_neg (by omega)];exact hk2 j (by omega) k hk1
  rw[if_neg ei]at hk1
  by_cases ej:j=M.nodes.length
  ·rw[if_pos ej];exact fun h5=>hk2 i (by omega) k h5 hk1
  rw[if_neg ej];exact h.kapart i j (by omega) (by omega) hne k hk1
 have hi:i<(M.nodes++[x]).length:=hi;have hj:j<(M.nodes++[x]).length:=hj;simp at hi hj;rw[ni_]at hk1 ⊢
 by_cases ei:i=M.nodes.length
 ·rw[if_pos ei]at hk1
  rw[if_neg (by omega)];exact ha2 j (by omega) k hk1
 rw[if_neg ei]at hk1
 by_cases ej:j=M.nodes.length
 ·rw[if_pos ej];exact fun h5=>ha2 i (by omega) k h5 hk1
 rw[if_neg ej];exact h.aapart i j (by omega) (by omega) hne k hk1
theorem jh_(l:List UInt8)(w:World)(hs:l.length<=1000000)(hv:U.rep l=l) :
  Calls Tryz.prog 57 #[.string ⟨l.toArray⟩] w fun e w'=>∃v,e=.returned v/\w'.ownsRow w.heap.size 9 1 v (U.pts l).length (T.strs (U.pts l))/\Below w.heap.size w w':=by
 have h:=T.refPoints ⟨l.toArray⟩ w (by rw[H.aN_];exact hs);have hd:(⟨l.toArray⟩:ByteArray).data.toList=l:=by simp
 have hr:U.raw l=U.pts l:=by
  have h1:=U.kz_ l
  rwa [hv]at h1
 rw[hd,hr]at h;exact h
theorem i3_{w:World}{base:Nat}{v:Value}{l:List (List UInt8)}(h:w.ownsRow base 9 1 v l.length (T.strs l)):∃ao cap,v=.slice ao l.length cap/\T.StrRow w ao l:=by
 rcases h.2 with⟨h1,h2⟩|⟨g,cap,cur,h1,hb,hg,hn,hm,hc,ht⟩
 ·exact⟨none,0,by rw[h1,h2],fun hl=>by omega⟩
 refine⟨_,cap,h1,fun hl=>⟨g,rfl,lt_of_block hg,fun j hj=>?_⟩⟩;have h3:=h;rw[h1]at h3;have h4:=((ad_ h3).2.2.2 j (by rw[T.strs_length];omega)).1;rw[h4];unfold T.strs;rw[List.getElem?_map,List.getElem?_eq_getElem hj,List.getD_eq_getElem?_getD,List.getElem?_eq_getElem hj];rfl
theorem mSize(M:aJ_)(i:Nat)(w:World)(h:ac_ w M)(hi:i<M.nodes.length)(hd:(nd M.m i).data.length<=1000000)(hv:U.rep (nd M.m i).data=(nd M.m i).data) :
  Calls Tryz.prog 37 #[.pointer (some ⟨M.mb,0,none⟩),.int .i64 i] w fun e w'=>e=.returned (.int .i64 (G.sizeOf M.m i:Nat))/\Below w.heap.size w w':=by
 obtain⟨c0,l0,l1⟩:=h.top;obtain⟨k0,_,_,k3,_,k5,_⟩:=h.cell hi;obtain⟨ao,cap,hkv,_⟩:=cd_.form (h.kidsRow hi);rw[hkv]at k5;have n1:(i:Int)<(M.nodes.length:Int):=by omega
 have n0:(0:Int)<=(i:Int):=by omega
 have hfew:=h.few;have HS:Hd (G.sizeOf M.m i=if 2<(nd M.m i).kind then(U.pts (nd M.m i).data).length else(nd M.m i).kids.length):=hi_ rfl;have Q:=hi_ (jh_ (nd M.m i).data w hd hv);generalize G.sizeOf M.m i=sz at *;generalize (nd M.m i).kind=kd at *;generalize (nd M.m i).data=dt at *;generalize (nd M.m i).kids.length=kl at *;clear h hkv hd hv
 by_cases hk:2<kd
 ·have hk1:(2:Int)<(kd:Int):=by omega
  have HF:Hd (sz=(U.pts dt).length):=hi_ (by rw[HS.o,if_pos hk]);clear hk HS
  go_enter Tryz.func37,Tryz.ntmps37
  go_wp2_with fail
  refine Q.o.mono ?_;rintro e w1 ⟨v,rfl,hown,hb⟩;obtain⟨ao2,cap2,hv2,_⟩:=i3_ hown;subst hv2;have HB:=hi_ hb;clear hown hb Q;go_wp2_with fail
  go_ret
  exact⟨aE_ (by rw[HF.o]),HB.o⟩
 have hk1:¬(2:Int)<(kd:Int):=by omega
 have HF:Hd (sz=kl):=hi_ (by rw[HS.o,if_neg hk]);clear hk HS Q
 go_enter Tryz.func37,Tryz.ntmps37
 go_wp2_with fail
 go_ret
 exact⟨aE_ (by rw[HF.o]),br_⟩
theorem f8_:(Tryz.prog.info? 105).map (fun i=>(i.zero,i.size,i.bytes))=some (some (.agg #[.int .i64 0,.string ⟨#[]⟩,.slice none 0 0,.string ⟨#[]⟩,.int .i64 0,.slice none 0 0,.bool false]),7,104):=by kernel_rfl
theorem e0_{w:World}{g:Nat}{t:TypeId}{a0 a1 a2 a3 a4 a5 a6:Value}(h:Blk g #[a0,a1,a2,a3,a4,a5,a6] t w) :
  (w.cell? ⟨g,0,none⟩=some a0/\w.cell? ⟨g,1,none⟩=some a1/\w.cell? ⟨g,2,none⟩=some a2/\w.cell? ⟨g,3,none⟩=some a3/\w.cell? ⟨g,4,none⟩=some a4/\w.cell? ⟨g,5,none⟩=some a5/\w.cell? ⟨g,6,none⟩=some a6) ∧
  (w.frozen? ⟨g,1,none⟩=false/\w.frozen? ⟨g,2,none⟩=false/\w.frozen? ⟨g,3,none⟩=false):=by
 have hc:=(ae_ h).1;have hf:=(ae_ h).2;exact⟨⟨hc 0,hc 1,hc 2,hc 3,hc 4,hc 5,hc 6⟩,⟨hf 1 (by simp),hf 2 (by simp),hf 3 (by simp)⟩⟩
theorem Blk.n1{w:World}{A:Nat}{a b c d e f g:Value}{t:TypeId}(k:Blk A #[a,b,c,d,e,f,g] t w)(b':Value):Blk A #[a,b',c,d,e,f,g] t (w.setCell ⟨A,1,none⟩ b'):=by
 have h9:=k.set 1 b';simp only[List.setIfInBounds_toArray,List.set_cons_zero,List.set_cons_succ]at h9;exact h9
theorem Blk.n2{w:World}{A:Nat}{a b c d e f g:Value}{t:TypeId}(k:Blk A #[a,b,c,d,e,f,g] t w)(b':Value):Blk A #[a,b,b',d,e,f,g] t (w.setCell ⟨A,2,none⟩ b'):=by
 have h9:=k.set 2 b';simp only[List.setIfInBounds_toArray,List.set_cons_zero,List.set_cons_succ]at h9;exact h9
theorem Blk.n3{w:World}{A:Nat}{a b c d e f g:Value}{t:TypeId}(k:Blk A #[a,b,c,d,e,f,g] t w)(b':Value):Blk A #[a,b,c,b',e,f,g] t (w.setCell ⟨A,3,none⟩ b'):=by
 have h9:=k.set 3 b';simp only[List.setIfInBounds_toArray,List.set_cons_zero,List.set_cons_succ]at h9;exact h9
def aJ_.app(M:aJ_)(x:b0_)(g cap:Nat):aJ_:={ M with g:=g,cap:=cap,nodes:=M.nodes++[x] }
theorem app_m(M:aJ_)(x:b0_)(g cap:Nat):(M.app x g cap).m=M.m++[x.n]:=by unfold aJ_.app aJ_.m;simp
theorem oA_{w:World}{M:aJ_}{x:b0_}{g cap:Nat}(hg:M.g=g\/w.heap.size<=g)(hk:∀k,x.kv.ownBlock=some k->w.heap.size<=k)(ha:∀k,x.av.ownBlock=some k->w.heap.size<=k):aO_ w M (M.app x g cap):=by
 refine⟨rfl,rfl,fun k hf=>?_⟩
 rcases hf with h1|h1|⟨y,hy,h1⟩
 ·exact Or.inl (Or.inl h1)
 ·have h1:k=g:=h1
  rcases hg with h2|h2
  ·exact Or.inl (Or.inr (Or.inl (by rw[h1,h2])))
  exact Or.inr (by rw[h1];exact h2)
 have hy:y∈M.nodes++[x]:=hy
 rcases List.mem_append.1 hy with hy|hy
 ·exact Or.inl (Or.inr (Or.inr ⟨y,hy,h1⟩))
 have:=List.mem_singleton.1 hy;subst this;exact Or.inr (h1.elim (hk k) (ha k))
theorem hs_{w0 w w':World}{M:aJ_}{x:b0_}{g cap:Nat}(h:ac_ w M)(hb:Below w0.heap.size w0 w)(hB0:ac_ w0 M)(f:H.Frame (fun k=>k=M.g) w w')(hlen:M.nodes.length<1000000)
  (hr:w'.ownsRow M.B 105 7 (.slice (some ⟨g,0,none⟩) (M.nodes.length+1) cap) (M.nodes.length+1) (M.nodes.flatMap bU_++bU_ x)) (hg:M.g=g\/w0.heap.size<=g)
  (hkv:x.kv=.slice none 0 0) (hkk:x.n.kids=[]) (ha:ab_ aj_ w0.heap.size 143 2 w' x.av x.n.attrs) :
  ac_ (w'.setCell ⟨M.mb,0,none⟩ (.slice (some ⟨g,0,none⟩) (M.nodes.length+1) cap)) (M.app x g cap)/\H.Frame M.foot w0 (w'.setCell ⟨M.mb,0,none⟩ (.slice (some ⟨g,0,none⟩) (M.nodes.length+1) cap))/\aO_ w0 M (M.app x g cap):=by
 have hlt:=hB0.blk.lt;have hbb:=hB0.bb;refine⟨h.push f hlen hr (by rw[hkv,hkk];exact World.ownsRow_nil _ _ _ _) (ca_ ha (by omega)) (fun j hj k hk=>by rw[hkv]at hk;simp[Value.ownBlock]at hk) (fun j hj k hk e=>?_),?_,oA_ hg (fun k hk=>by rw[hkv]at hk;simp[Value.ownBlock]at hk) (fun k hk=>(World.ownsRow.lt ha k hk).1)⟩
 ·have h1:=(World.ownsRow.lt ha k hk).1
  have h2:=(World.ownsRow.lt (hB0.attrs _ (aJ_.at_mem hj).2) k e).2;omega
 exact Frame.set (S:=M.foot) ((H.Frame.of (S:=M.foot) hb).trans f (fun b hb=>Or.inl (Or.inr (Or.inl hb)))) (Or.inl (Or.inl rfl)) 0 _
theorem ok_from(l:List BB)(i:Nat)(hi:i<l.length)(seen:List (List UInt8)):aW_ (l.drop i) seen=(bE_ l[i].1 && !seen.contains l[i].1 && aW_ (l.drop (i+1)) (seen++[l[i].1])):=by
 rw[List.drop_eq_getElem_cons hi,aW_]
theorem lR_(l:List BB)(i:Nat)(hi:i<l.length):(l.take i).map (·.1)++[l[i].1]=(l.take (i+1)).map (·.1):=by
 rw[List.take_add_one,List.getElem?_eq_getElem hi,List.map_append];rfl
theorem nL_(l:List BB)(i:Nat)(x:List UInt8)(h:∀j a,j<i->l[j]?=some a->(a.1==x)=false):((l.take i).map (·.1)).contains x=false:=by
 rw[<-Bool.not_eq_true];intro h1;rw[List.contains_iff_mem]at h1;obtain⟨a,ha,e⟩:=List.mem_map.1 h1;obtain⟨j,hj⟩:=List.mem_iff_getElem?.1 ha;rw[List.getElem?_take]at hj
 split at hj
 ·rename_i hji
  have h2:=h j a hji hj;rw[e]at h2;simp at h2
 cases hj
theorem nK_(l:List BB)(i k:Nat)(hk:k<i)(hkl:k<l.length)(x:List UInt8)(h:(l[k].1==x)=true):((l.take i).map (·.1)).contains x=true:=by
 rw[List.contains_iff_mem];refine List.mem_map.2 ⟨l[k],?_,by simpa using h⟩;refine List.mem_iff_getElem?.2 ⟨k,?_⟩;rw[List.getElem?_take,if_pos hk,List.getElem?_eq_getElem hkl]
def jy_(w:World)(M:aJ_)(e:Ending)(w':World)(r:Option aa_):Prop:=
 ∃M',e=.returned (.int .i64 (match r with|none=>1|some _=>0))/\H.Frame M.foot w w'/\ac_ w' M'/\M'.m=r.getD M.m/\aO_ w M M'
theorem ia_(M:aJ_)(kind:Nat)(name data:List UInt8)(w:World)(hM:ac_ w M)(hk:kind≠2)(hk4:kind<=4)(hd:data.length<=100000)(hlen:M.nodes.length<100000)(av:Value) :
  Calls Tryz.prog 59 #[.pointer (some ⟨M.mb,0,none⟩),.int .i64 kind,.string ⟨name.toArray⟩,.string ⟨data.toArray⟩,av] w fun e w'=>jy_ w M e w' (make M.m kind name data []):=by
 have HM:=hi_ hM;obtain⟨x,hx⟩:∃x:b0_,x=⟨⟨kind,[],[],U.rep data,none,[],false⟩,.slice none 0 0,.slice none 0 0⟩:=⟨_,rfl⟩;have HX:=hi_ hx;have hR:make M.m kind name data []=some (M.m++[x.n]):=by unfold make;rw[if_neg hk,hx]
 rw[hR];have QR:=hi_ (fun W=>dp_ data W (by omega));obtain⟨i0,hi0,hz0,hz1,hz2⟩:=info_parts f8_;have hb1:=(Below.refl w.heap.size w).alloc (nl_) (.cells #[.int .i64 kind,.string ⟨#[]⟩,.slice none 0 0,.string ⟨#[]⟩,.int .i64 (-1),.slice none 0 0,.bool false] 105);have HB1:=hi_ hb1;have HX1:=hi_ (Blk.new w #[.int .i64 kind,.string ⟨#[]⟩,.slice none 0 0,.string ⟨#[]⟩,.int .i64 (-1),.slice none 0 0,.bool false] 105);have hk2:¬(kind:Int)=2:=by omega
 have hk3:((kind:Int)==2)=false:=bn_ hk2;clear hM hb1 hR hk hx
 go_enter Tryz.func59,Tryz.ntmps59
 go_wp2_with fail
 generalize w.alloc (.cells #[.int .i64 kind,.string ⟨#[]⟩,.slice none 0 0,.string ⟨#[]⟩,.int .i64 (-1),.slice none 0 0,.bool false] 105)=w1 at *;refine(QR.o w1).mono ?_;rintro e w2 ⟨rfl,hb2⟩;have HX2:=hi_ (HX1.o.below hb2);have HB2:=bt_ HB1 hb2;obtain⟨_,⟨_,_,f3⟩⟩:=e0_ HX2.o;have hlX:=HX2.o.lt;have hMl:=Nat.lt_of_lt_of_le HM.o.blk.lt HB2.o.size;have hne:¬w.heap.size=M.mb:=by have:=HM.o.blk.lt;omega
 clear hb2 QR HX1 HB1;have HX3:=hi_ (Blk.n3 HX2.o (.string ⟨(U.rep data).toArray⟩));have HB3:=hi_ (HB2.o.setCell (p:=⟨w.heap.size,3,none⟩) (nl_) (.string ⟨(U.rep data).toArray⟩));go_upto_region 18 with fail
 generalize World.setCell w2 ⟨w.heap.size,3,none⟩ (.string ⟨(U.rep data).toArray⟩)=w3 at *;have HM3:=hi_ (HM.o.below HB3.o);obtain⟨c0,l0,l1⟩:=HM3.o.top;obtain⟨⟨a0,a1,a2,a3,a4,a5,a6⟩,_⟩:=e0_ HX3.o;have hlX:=HX3.o.lt;have HA3:Hd (ab_ aj_ w.heap.size 143 2 w3 x.av x.n.attrs):=hi_ (by rw[HX.o];exact World.ownsRow_nil _ _ _ _);have HNc:Hd (bU_ x=[.int .i64 kind,.string ⟨#[]⟩,.slice none 0 0,.string ⟨(U.rep data).toArray⟩,.int .i64 (-1),.slice none 0 0,.bool false]):=hi_ (by rw[HX.o];rfl);have HE:=hi_ (fun w' g cap f hr hg=>hs_ (w0:=w) (w:=w3) (w':=w') (M:=M) (x:=x) (g:=g) (cap:=cap) HM3.o HB3.o HM.o f (by omega) hr hg (by rw[HX.o]) (by rw[HX.o]));have hbb:=HM.o.bb;have hml:=HM.o.blk.lt;have hws:=HB3.o.size;have hfew:=HM.o.few
 have hgm:M.mb≠M.g:=fun e=>ai_ HM3.o.row HM3.o.blk (by decide) (by rw[e];rfl);have hga:∀k,x.av.ownBlock=some k->k≠M.g:=fun k hk e=>by
  have h1:=(World.ownsRow.lt HA3.o k hk).1;have h2:=(ad_ HM.o.row).1;omega
 have HGm:=hi_ hgm;have HGa:=hi_ hga;clear hgm hga hne
 go_region_law ((refine step_append_lies _ (by rfl) _ _ _ (by rfl) M.B 105 i0 _ 7 104 Tryz.underlying100 hi0 hz0 hz1 hz2 rfl (by omega) (.slice (some ⟨M.g,0,none⟩) M.nodes.length M.cap) M.nodes.length (M.nodes.flatMap bU_) (by rfl) ((World.ownsRow.alloc HM3.o.row _).drew) ⟨w3.heap.size,0,none⟩ 1 1 [.int .i64 kind,.string ⟨#[]⟩,.slice none 0 0,.string ⟨(U.rep data).toArray⟩,.int .i64 (-1),.slice none 0 0,.bool false] (by rfl) (by rfl) (World.news_of_block (cs:=#[.int .i64 kind,.string ⟨#[]⟩,.slice none 0 0,.string ⟨(U.rep data).toArray⟩,.int .i64 (-1),.slice none 0 0,.bool false]) (t:=105) (fr:=(0,0)) (heap_alloc_new w3 _)) (by simp[Value.oneCell']) (by omega) (by unfold maxLen;omega) (by omega) (by simp;omega) (w3.heap.size+1) (by simp) ?_;intro gg cap2 w5 hown5 hgrow hat5 hlt5;have hF5:H.Frame (fun k=>k=M.g) w3 w5:=H.Frame.grown (S:=fun k=>k=M.g) (Frame.drew (Frame.alloc (H.Frame.refl _ w3) _)) hgrow (fun k hk=>Or.inl (by have hk:some M.g=some k:=hk;injection hk with hk;exact hk.symm));have hb5:=HM3.o.blk.frame hF5 HGm.o;have d0:=(ae_ hb5).1 0;have m0:=hb5.lt;have g0:=(ae_ hb5).2 0 (by simp)))
 all_goals (
  have hA5:=ak_ HA3.o hF5 HGa.o;have hfin:=HE.o w5 gg cap2 hF5 (by rw[HNc.o];exact hown5) (hat5.imp (fun e=>by have e:some M.g=some gg:=e;injection e) (fun e=>by omega)) hA5;have HFin:=hi_ hfin;clear hfin hA5 hown5 hgrow hat5 hF5 hb5;go_wp2_with fail
  refine bodyPost_ret (v:=.int .i64 0) (by simp[results,Tryz.results59,go_sem]) rfl ⟨_,rfl,HFin.o.2.1,HFin.o.1,?_,HFin.o.2.2⟩;rw[app_m];rfl)
structure RestK(w:World)(M:aJ_)(i:Nat):Prop where
 blk:Blk M.mb #[.slice (some ⟨M.g,0,none⟩) M.nodes.length M.cap] 102 w
 row:ab_ bU_ M.B 105 7 w (.slice (some ⟨M.g,0,none⟩) M.nodes.length M.cap) M.nodes
 few:M.nodes.length<=1000000
 bb:M.B<=M.mb
 kids:∀j,j<M.nodes.length->j≠i->cd_ M.B w (M.at_ j).kv (M.at_ j).n.kids
 attrs:∀x,x∈M.nodes->ab_ aj_ M.B 143 2 w x.av x.n.attrs
 kapart:∀i j,i<M.nodes.length->j<M.nodes.length->i≠j->∀g,(M.at_ i).kv.ownBlock=some g->(M.at_ j).kv.ownBlock≠some g
 aapart:∀i j,i<M.nodes.length->j<M.nodes.length->i≠j->∀g,(M.at_ i).av.ownBlock=some g->(M.at_ j).av.ownBlock≠some g
theorem ac_.restK{w w':World}{M:aJ_}{i:Nat}(h:ac_ w M)(hi:i<M.nodes.length)(f:H.Frame (fun k=>(M.at_ i).kv.ownBlock=some k) w w'):RestK w' M i:=by
 have ha:=h.kids _ (aJ_.at_mem hi).2;refine⟨h.blk.frame f (fun e=>ai_ ha h.blk (by decide) e),ak_ h.row f (fun g hg e=>aQ_ ha h.row (by decide) e hg),h.few,h.bb,fun j hj hne=>ak_ (h.kids _ (aJ_.at_mem hj).2) f (fun g hg e=>h.kapart i j hi hj (fun e2=>hne e2.symm) g e hg),fun x hx=>ak_ (h.attrs x hx) f (fun g hg e=>aQ_ ha (h.attrs x hx) (by decide) e hg),h.kapart,h.aapart⟩
theorem RestK.put{w:World}{M:aJ_}{i:Nat}(h:RestK w M i)(hi:i<M.nodes.length){kv:Value}{kl:List Nat}(hr:cd_ M.B w kv kl)(hap:∀j,j<M.nodes.length->j≠i->∀g,kv.ownBlock=some g->(M.at_ j).kv.ownBlock≠some g) :
  ac_ (w.setCell ⟨M.g,i*7+5,none⟩ kv) (M.modN i fun x=>{ x with kv:=kv,n:={ x.n with kids:=kl } }):=by
 have hlen:=cC_ M i (fun x=>{ x with kv:=kv,n:={ x.n with kids:=kl } });have hat:=fh_ (f:=fun x=>{ x with kv:=kv,n:={ x.n with kids:=kl } }) hi;have hav:∀j,((M.modN i fun x=>{ x with kv:=kv,n:={ x.n with kids:=kl } }).at_ j).av=(M.at_ j).av:=fun j=>by rw[hat];split<;>rfl
 have hg1:M.mb≠M.g:=fun e=>ai_ h.row h.blk (by decide) (by rw[e];rfl);refine⟨?_,?_,by rw[hlen];exact h.few,h.bb,fun x hx=>?_,fun x hx=>?_,fun a b ha hb hne g hg=>?_,fun a b ha hb hne g hg=>?_⟩
 ·rw[hlen];exact h.blk.far hg1 _ _
 ·exact ab_.store aV_ h.row hi (by omega) kv _ rfl
 ·obtain⟨j,hj,rfl⟩:=d5_ x hx
  rw[hat]
  by_cases e:j=i
  ·rw[if_pos e]
   exact au_ hr (fun e=>aQ_ hr h.row (by decide) e rfl) (i*7+5) kv
  rw[if_neg e];have h1:=h.kids j hj e;exact au_ h1 (fun e=>aQ_ h1 h.row (by decide) e rfl) (i*7+5) kv
 ·obtain⟨j,hj,rfl⟩:=d5_ x hx
  have h1:=h.attrs _ (aJ_.at_mem hj).2;have h2:=au_ h1 (fun e=>aQ_ h1 h.row (by decide) e rfl) (i*7+5) kv;rw[hat]
  split<;>exact h2
 ·have ha':a<M.nodes.length:=by rw[<-hlen];exact ha
  have hb':b<M.nodes.length:=by rw[<-hlen];exact hb
  rw[hat]at hg ⊢
  by_cases ea:a=i
  ·rw[if_pos ea]at hg
   rw[if_neg (fun e=>hne (ea.trans e.symm))];exact hap b hb' (fun e=>hne (ea.trans e.symm)) g hg
  rw[if_neg ea]at hg
  by_cases eb:b=i
  ·rw[if_pos eb]
   exact fun h5=>hap a ha' ea g h5 hg
  rw[if_neg eb];exact h.kapart a b ha' hb' hne g hg
 rw[hav]at hg ⊢;exact h.aapart a b (by rw[<-hlen];exact ha) (by rw[<-hlen];exact hb) hne g hg
def gv_(m:aa_):Prop:=∀i,(nd m i).kids.length<=m.length
theorem gv_.of{m:aa_}(W:WF m):gv_ m:=fun i=>by
 have h1:(nd m i).kids.length<=(List.range m.length).length:=List.Nodup.length_le_of_subset (W.nodup i) (fun x hx=>List.mem_range.2 (W.kid i x hx).1)
 rwa [List.length_range]at h1
theorem gv_.addc{m:aa_}(h:gv_ m)(x:G.Node)(hx:x.kids=[])(par:Option Nat):gv_ (addc m x par):=by
 have ha:∀y:G.Node,y.kids=[]->gv_ (m++[y]):=fun y hy i=>by
  rw[aK_,List.length_append]
  split
  ·rw[hy];simp
  have:=h i;simp;omega
 cases par with
 |none=>unfold G.addc;exact ha _ hx
 |some p=>
  unfold G.addc;dsimp only;intro i;have h1:=ha { x with parent:=some p } hx;rw[cV_]
  rcases Nat.lt_or_ge p (m++[{ x with parent:=some p }]).length with hp|hp
  ·rw[cn_ hp]
   split
   ·rename_i e
    dsimp only;rw[List.length_append,List.length_append];rw[aK_]
    split
    ·rw[hx];simp
    have:=h i;simp;omega
   exact h1 i
  rw[em_ hp];exact h1 i
end R
end
section
open Go.RowKit Go.Sort
namespace G
theorem gv_.copyN:∀(n:Nat) {m:aa_} (h:R.gv_ m) (a:Nat) (par:Option Nat) (deep:Bool),R.gv_ (copyN n m a par deep)
 |0,m,h,a,par,deep=>h
 |n+1,m,h,a,par,deep=>by
  have h1:R.gv_ (addc m (bare (nd m a)) par):=R.gv_.addc h _ rfl par;rw[G.copyN]
  cases deep with
  |false=>exact h1
  |true=>
   simp only[if_true];have hf:∀(l:List Nat) (m':aa_),R.gv_ m'->R.gv_ (l.foldl (fun m' c=>G.copyN n m' c (some m.length) true) m'):=by
    intro l
    induction l with
    |nil=>exact fun m' h=>h
    |cons c t ih=>exact fun m' h'=>ih _ (gv_.copyN n h' c _ true)
   exact hf _ _ h1
theorem dQ_(n:Nat)(K B:Nat)(hKB:B<=K):∀(l:List Nat) (m':aa_),(∀c∈l,c<B)->K<m'.length->Low B m' →
  m'.length<=(l.foldl (fun m' c=>copyN n m' c (some K) true) m').length/\∀i,i<B->nd (l.foldl (fun m' c=>copyN n m' c (some K) true) m') i=nd m' i
 |[],m',_,_,_=>⟨nl_,fun i hi=>rfl⟩
 |c :: t,m',hc,hK,hL=>by
  obtain⟨a1,a2⟩:=cB_ n m' c (some K) true B (by omega) hL (hc c (by simp)) (fun q hq'=>by injection hq' with e;subst e;exact⟨hK,hKB⟩);obtain⟨b1,b2⟩:=dQ_ n K B hKB t (copyN n m' c (some K) true) (fun d hd=>hc d (by simp[hd])) (by omega) (fun i hi c hc=>by rw[a2 i hi]at hc;exact hL i hi c hc);rw[List.foldl_cons];exact⟨by omega,fun i hi=>(b2 i hi).trans (a2 i hi)⟩
theorem Low.of_same{B:Nat}{m m':aa_}(hL:Low B m)(h:∀i,i<B->nd m' i=nd m i):Low B m':=fun i hi c hc=>by rw[h i hi]at hc;exact hL i hi c hc
theorem iL_{m:aa_}{x:Node}{par:Option Nat}{B:Nat}(hB:B<=m.length)(hq:∀q,par=some q->q<m.length/\B<=q)(i:Nat)(hi:i<B):nd (addc m x par) i=nd m i:=
 e7_ (by omega) (fun q hq'=>⟨(hq q hq').1,by have:=(hq q hq').2;omega⟩)
theorem mU_(n:Nat){m m2:aa_}{ks:List Nat}{K B i c N:Nat}(hKB:B<=K)(hc:ks[i]?=some c)(hks:∀c∈ks,c<B)(hK:K<m2.length)(hL:Low B m2)
  (hN:(ks.foldl (fun m' c=>copyN n m' c (some K) true) m2).length<=N) :
  (ks.take (i+1)).foldl (fun m' c=>copyN n m' c (some K) true) m2=copyN n ((ks.take i).foldl (fun m' c=>copyN n m' c (some K) true) m2) c (some K) true ∧
  (copyN n ((ks.take i).foldl (fun m' c=>copyN n m' c (some K) true) m2) c (some K) true).length<=N/\m2.length<=((ks.take i).foldl (fun m' c=>copyN n m' c (some K) true) m2).length:=by
 have h1:(ks.take (i+1)).foldl (fun m' c=>copyN n m' c (some K) true) m2=copyN n ((ks.take i).foldl (fun m' c=>copyN n m' c (some K) true) m2) c (some K) true:=by
  rw[List.take_add_one,hc,List.foldl_append];rfl
 obtain⟨a1,a2⟩:=dQ_ n K B hKB (ks.take i) m2 (fun d hd=>hks d (List.mem_of_mem_take hd)) hK hL;obtain⟨b1,b2⟩:=dQ_ n K B hKB (ks.take (i+1)) m2 (fun d hd=>hks d (List.mem_of_mem_take hd)) hK hL;obtain⟨c1,_⟩:=dQ_ n K B hKB (ks.drop (i+1)) ((ks.take (i+1)).foldl (fun m' c=>copyN n m' c (some K) true) m2) (fun d hd=>hks d (List.mem_of_mem_drop hd)) (by omega) (hL.of_same b2);rw[<-List.foldl_append,List.take_append_drop]at c1;refine⟨h1,?_,a1⟩;rw[<-h1];omega
end G
namespace R
open H G A
def jz_(n:Nat):Prop:=∀(B:Nat) (M:aJ_) (h:Nat) (par:Option Nat) (deep:Bool) (w:World),ac_ w M->h<B->B<=M.nodes.length->Low B M.m->G.low M.m n h->(∀q,par=some q->q<M.nodes.length/\B<=q) →
 (copyN n M.m h par deep).length<=100000->(∀i,i<B->(nd M.m i).attrs.length<=100000)->gv_ M.m →
 Calls Tryz.prog 156 #[.pointer (some ⟨M.mb,0,none⟩),.int .i64 h,.int .i64 (ch_ par),.bool deep] w fun e w'=>∃M',e=.returned (.tuple #[])/\H.Frame M.foot w w'/\ac_ w' M'/\M'.m=copyN n M.m h par deep/\aO_ w M M'/\∀i,i<B->M'.at_ i=M.at_ i
theorem lq_{M:aJ_}{x:b0_}{g cap:Nat}{j:Nat}(hj:j<M.nodes.length):(M.app x g cap).at_ j=M.at_ j:=by
 show({ M with g:=g,cap:=cap,nodes:=M.nodes++[x] }:aJ_).at_ j=_;rw[ni_,if_neg (by omega)]
theorem app_len(M:aJ_)(x:b0_)(g cap:Nat):(M.app x g cap).nodes.length=M.nodes.length+1:=by unfold aJ_.app;simp
end R
end
section
open Go.RowKit Go.Sort
namespace R
open H G A
def Whole(m:aa_):Prop:=∀i,(nd m i).data.length<=100000/\U.rep (nd m i).data=(nd m i).data
theorem e8_{m:aa_}(W:WF m)(i:Nat):(nd m i).kids.length<=m.length:=by
 have h1:(nd m i).kids.length<=(List.range m.length).length:=List.Nodup.length_le_of_subset (W.nodup i) (fun x hx=>List.mem_range.2 (W.kid i x hx).1)
 rwa [List.length_range]at h1
theorem dY_{m:aa_}(W:WF m)(hD:Whole m)(hl:m.length<=100000)(i:Nat):G.sizeOf m i<=100000:=by
 unfold G.sizeOf
 split
 ·exact Nat.le_trans (U.cS_ _) (hD i).1
 exact Nat.le_trans (e8_ W i) hl
theorem rec_at3{w2 w3:World}(b:Below ((w2.alloc (.cells #[.int .i64 0,.int .i64 0,.int .i64 0,.int .i64 0,.int .i64 0,.int .i64 0,.string ⟨#[]⟩,.string ⟨#[]⟩,.bool false,.int .i64 0,.int .i64 0] 71)).drew).heap.size ((w2.alloc (.cells #[.int .i64 0,.int .i64 0,.int .i64 0,.int .i64 0,.int .i64 0,.int .i64 0,.string ⟨#[]⟩,.string ⟨#[]⟩,.bool false,.int .i64 0,.int .i64 0] 71)).drew) w3):Blk w2.heap.size #[.int .i64 0,.int .i64 0,.int .i64 0,.int .i64 0,.int .i64 0,.int .i64 0,.string ⟨#[]⟩,.string ⟨#[]⟩,.bool false,.int .i64 0,.int .i64 0] 71 w3:=
 Blk.below (w:=(w2.alloc (.cells #[.int .i64 0,.int .i64 0,.int .i64 0,.int .i64 0,.int .i64 0,.int .i64 0,.string ⟨#[]⟩,.string ⟨#[]⟩,.bool false,.int .i64 0,.int .i64 0] 71)).drew) (Blk.new w2 _ _) b
def recM(h:Nat)(i:Nat)(old:List UInt8)(c n:Nat):Array Value:=#[.int .i64 4,.int .i64 h,.int .i64 (-1),.int .i64 (-1),.int .i64 (-1),.int .i64 i,.string ⟨#[]⟩,.string ⟨old.toArray⟩,.bool false,.int .i64 c,.int .i64 n]
theorem lg_{w:World}{M:aJ_}(h:ac_ w M){i:Nat}(hi:i<M.nodes.length)(d:List UInt8) :
  ac_ (w.setCell ⟨M.g,i*7+3,none⟩ (.string ⟨d.toArray⟩)) (M.modN i fun x=>{ x with n:={ x.n with data:=d } })/\(M.modN i fun x=>{ x with n:={ x.n with data:=d } }).m=bQ_ M.m i d/\aO_ w M (M.modN i fun x=>{ x with n:={ x.n with data:=d } }):=by
 refine⟨h.storeP hi (by omega) (.string ⟨d.toArray⟩) _ rfl ⟨rfl,rfl,rfl,rfl⟩,el_ M i _ (fun x=>{ x with data:=d }) (fun x=>rfl),rfl,rfl,fun k hk=>?_⟩
 rcases b5_ hi hk with h1|h1|h1
 ·exact Or.inl h1
 ·exact Or.inl (Or.inr (Or.inr ⟨_,(aJ_.at_mem hi).2,Or.inl h1⟩))
 exact Or.inl (Or.inr (Or.inr ⟨_,(aJ_.at_mem hi).2,Or.inr h1⟩))
theorem mx1:max (0:Int) 0=((0:Nat):Int):=rfl
theorem mx2(i z:Nat):max ((i:Int)+(z:Int)) 0=((i+z:Nat):Int):=by omega
theorem le_to{a b ln:Nat}(h:b=ln)(h2:a<=ln):(a:Int)<=(b:Int):=by omega
theorem len_ok{a ln b:Nat}(h:a=ln)(h2:ln<=b)(h3:b<=100000):a<=1000000:=by omega
theorem aO_.of_later{w w':World}{M M':aJ_}(h:aO_ w' M M')(hs:w.heap.size<=w'.heap.size):aO_ w M M':=(aO_.refl w M).step h hs
theorem n4_(M:aJ_)(h:Nat)(i c:Int)(s:List UInt8)(w:World)(hM:ac_ w M)(hh:h<M.nodes.length)(hdl:(nd M.m h).data.length<=100000)(hdr:U.rep (nd M.m h).data=(nd M.m h).data)(hs:s.length<=1000)(hi:-1000<=i/\i<=1000)(hc:-1000<=c/\c<=1000) :
  Calls Tryz.prog 70 #[.pointer (some ⟨M.mb,0,none⟩),.int .i64 h,.int .i64 i,.int .i64 c,.string ⟨s.toArray⟩] w fun e w'=>∃v M',e=.returned (.tuple #[v,.int .i64 ((replace M.m h i c s).2.1:Nat)])/\H.Frame (fun k=>k=M.g) w w'/\ac_ w' M'/\M'.m=(replace M.m h i c s).2.2/\aO_ w M M'/\aI_ w.heap.size w' v (replace M.m h i c s).1:=by
 obtain⟨c0,l0,l1⟩:=hM.top;obtain⟨k0,_,_,k3,_,_,_⟩:=hM.cell hh;have n1:(h:Int)<(M.nodes.length:Int):=by omega
 have n0:(0:Int)<=(h:Int):=by omega
 have hfew:=hM.few;have HM:=hi_ hM;have HTop:=hi_ (fun W (hb:Below w.heap.size w W)=>(hM.below hb).top);have HCl:=hi_ (fun W (hb:Below w.heap.size w W)=>((hM.below hb).cell hh).2.2.2.1);have HFz:=hi_ (fun W (hb:Below w.heap.size w W)=>(ab_.cell aV_ (hM.below hb).row hh (k:=3) (by omega)).2);have QP:=hi_ (fun W=>jh_ (nd M.m h).data W (by omega) hdr);have QR:=hi_ (fun W=>dp_ s W (by omega));have hrl:=fQ_ s;have QN:=hi_ (fun W=>jh_ (U.rep s) W (by omega) (U.lW_ s));rw[U.e5_]at QN;have HSC:=hi_ (eF_ M.m h i c s);have HSp:=hi_ (fun i z=>fN_ (nd M.m h).data s i z);have HSl:=hi_ (fun i z=>gR_ (nd M.m h).data s i z);have hpn:=U.cS_ (nd M.m h).data;have HFl:Hd ((U.pts (nd M.m h).data).flatten.length<=1000000):=hi_ (by
  have e:(U.pts (nd M.m h).data).flatten=(nd M.m h).data:=hdr;rw[e];omega)
 obtain⟨R,hR⟩:∃R,R=replace M.m h i c s:=⟨_,rfl⟩;rw[<-hR]at HSC ⊢;generalize (nd M.m h).kind=kd at *;generalize (nd M.m h).data=dt at *;generalize hln:(U.pts dt).length=ln at *;have HLn:=hi_ hln;clear hM hR hln hdr hrl
 go_enter Tryz.func70,Tryz.ntmps70
 by_cases c3:kd<3
 ·have HRr:=hi_ (HSC.o.1 c3)
  have e1:((kd:Nat):Int)<3:=by omega
  clear c3 HSC;go_wp2_with fail
  refine bodyPost_ret (v:=.tuple #[.slice none 0 0,.int .i64 10]) (by simp[results,Tryz.results70,go_sem]) rfl ⟨.slice none 0 0,M,by rw[HRr.o];rfl,H.Frame.refl _ _,HM.o,by rw[HRr.o],aO_.refl _ _,by rw[HRr.o];exact aI_.nil _ _⟩
 have HS1:=hi_ (HSC.o.2.1 c3);have HS2:=hi_ (HSC.o.2.2 c3);have e1:¬((kd:Nat):Int)<3:=by omega
 clear HSC c3;go_wp2_with fail
 refine(QP.o _).mono ?_;rintro e w2 ⟨v2,rfl,hown2,hb2⟩;obtain⟨ao2,cap2,hv2,hsr2⟩:=i3_ (l:=U.pts dt) (by rw[HLn.o];exact hown2);rw[HLn.o]at hv2;subst hv2;have HB2:=hi_ hb2;have HSr:=hi_ hsr2;clear hb2 hown2 hsr2 QP k0 k3
 by_cases hbad:i<0\/((ln:Nat):Int)<i\/c<0
 ·have HRr:=hi_ (HS1.o hbad)
  have hfin:∃v M',Ending.returned (.tuple #[.slice none 0 0,.int .i64 2])=Ending.returned (.tuple #[v,.int .i64 R.2.1])/\H.Frame (fun k=>k=M.g) w w2/\ac_ w2 M'/\M'.m=R.2.2/\aO_ w M M'/\aI_ w.heap.size w2 v R.1:=⟨.slice none 0 0,M,by rw[HRr.o];rfl,H.Frame.of HB2.o,HM.o.below HB2.o,by rw[HRr.o],aO_.refl _ _,by rw[HRr.o];exact aI_.nil _ _⟩;have HFn:=hi_ hfin;clear hfin
  by_cases g1:i<0
  ·clear hbad
   go_wp2_with fail
   exact bodyPost_ret (v:=.tuple #[.slice none 0 0,.int .i64 2]) (by simp[results,Tryz.results70,go_sem]) rfl HFn.o
  by_cases g2:((ln:Nat):Int)<i
  ·clear hbad
   go_wp2_with fail
   exact bodyPost_ret (v:=.tuple #[.slice none 0 0,.int .i64 2]) (by simp[results,Tryz.results70,go_sem]) rfl HFn.o
  have g3:c<0:=(hbad.resolve_left g1).resolve_left g2;clear hbad;go_wp2_with fail
  exact bodyPost_ret (v:=.tuple #[.slice none 0 0,.int .i64 2]) (by simp[results,Tryz.results70,go_sem]) rfl HFn.o
 obtain⟨ii,rfl⟩:∃ii:Nat,i=ii:=⟨i.toNat,by omega⟩;obtain⟨cc,rfl⟩:∃cc:Nat,c=cc:=⟨c.toNat,by omega⟩;have g1:¬(ii:Int)<0:=by omega
 have g2:¬((ln:Nat):Int)<(ii:Int):=by omega
 have g3:¬(cc:Int)<0:=by omega
 have g2n:¬ln<ii:=by omega
 have d1:decide ((ii:Int)<0)=false:=decide_eq_false g1;have d2:decide (ln<ii)=false:=decide_eq_false g2n;have d3:decide ((cc:Int)<0)=false:=decide_eq_false g3;have d4:decide ((ln:Int)<(ii:Int))=false:=decide_eq_false g2;obtain⟨z,hz⟩:∃z,z=min cc (ln-ii):=⟨_,rfl⟩;have hRr:=HS2.o hbad z (by simpa using hz);rw[Int.toNat_natCast]at hRr;have HRr:=hi_ hRr;have wq:IntKind.i64.wrap ((ln:Int)-(ii:Int))=(ln:Int)-(ii:Int):=IntWalk.i64_in _ (by omega);have wq2:wrap64 ((ln:Int)-(ii:Int))=(ln:Int)-(ii:Int):=by unfold wrap64;omega
 have hmin:min (cc:Int) ((ln:Int)-(ii:Int))=(z:Int):=by rw[hz];omega
 have wa:IntKind.i64.wrap ((ii:Int)+(z:Int))=(ii:Int)+(z:Int):=IntWalk.i64_in _ (by omega);have wa2:wrap64 ((ii:Int)+(z:Int))=(ii:Int)+(z:Int):=by unfold wrap64;omega
 have HZ:=hi_ (show ii+z<=ln by omega);have HMin:=hi_ hmin;have HLe1:=hi_ (le_to HLn.o (show ii<=ln by omega));have HLe2:=hi_ (le_to HLn.o (Nat.le_refl ln));have HLk:=hi_ (len_ok HLn.o hpn hdl);clear hbad hz HS1 HS2 hmin hRr;go_upto_region 6 with fail
 go_cut [3] (fun s3 wx=>s3=.int .i64 z/\wx=w2)
 case first=>
  go_wp2_with fail
  go_meet
  exact⟨congrArg (Value.int .i64) HMin.o,rfl⟩
 obtain⟨rfl,rfl⟩:=hcut;clear wq wq2;go_wp2_with fail
 refine(QR.o _).mono ?_;rintro e w3 ⟨rfl,hb3⟩;have HB3:=bt_ HB2 hb3;have HSr3:=hi_ (HSr.o.below hb3);have hsp:=HSp.o ii z;have hslen:=HSl.o ii z;obtain⟨sp,hspe⟩:∃sp,sp=U.splice dt s ii z:=⟨_,rfl⟩;rw[<-hspe]at hsp hslen HRr;generalize hrs:U.rep s=rs at *;have HSpl:=hi_ hsp;have HSln:=hi_ hslen;have HNn:=hi_ (show(U.pts s).length=(U.pts s).length from rfl);generalize hnn:(U.pts s).length=n at *;have HNe:=hi_ hnn;obtain⟨c0,l0,l1⟩:=HTop.o w3 HB3.o;have k3:=HCl.o w3 HB3.o;have HSS:Hd (∀w',Below w3.heap.size w3 w'->Below w3.heap.size w3 w'/\w'.cell? ⟨M.mb,0,none⟩=some (.slice (some ⟨M.g,0,none⟩) M.nodes.length M.cap)/\w'.cell? ⟨M.g,h*7+3,none⟩=some (.string ⟨dt.toArray⟩)):=hi_ (fun w' hB=>⟨hB,(hB.cell (p:=⟨M.mb,0,none⟩) l0).trans c0,(hB.cell (p:=⟨M.g,h*7+3,none⟩) l1).trans k3⟩)
 have QJ:Hd (∀W,(Below w3.heap.size w3 W/\W.cell? ⟨M.mb,0,none⟩=some (.slice (some ⟨M.g,0,none⟩) M.nodes.length M.cap)/\W.cell? ⟨M.g,h*7+3,none⟩=some (.string ⟨dt.toArray⟩))->Calls Tryz.prog 57 #[.string ⟨rs.toArray⟩] W fun e w'=>∃ao cap,e=.returned (.slice ao n cap)/\Below W.heap.size W w'/\Below w3.heap.size w3 w'/\w'.cell? ⟨M.mb,0,none⟩=some (.slice (some ⟨M.g,0,none⟩) M.nodes.length M.cap)/\w'.cell? ⟨M.g,h*7+3,none⟩=some (.string ⟨dt.toArray⟩)):=hi_ (fun W hW=>(QN.o W).mono (fun e w' he=>by
  obtain⟨v,h1,h2,h3⟩:=he;have h5:w'.ownsRow W.heap.size 9 1 v (U.pts s).length (T.strs (U.pts s)):=by rw[hnn];exact h2
  obtain⟨ao,cap,h4,_⟩:=i3_ h5;rw[hnn]at h4;exact⟨ao,cap,by rw[h1,h4],h3,HSS.o w' (hW.1.trans (h3.mono hW.1.size))⟩))
 have HBd:=hi_ (Below.refl w3.heap.size w3).drew;have HBx:=hi_ (show Below w3.heap.size w3 (w3.alloc (.cells #[.int .i64 0,.int .i64 0,.int .i64 0,.int .i64 0,.int .i64 0,.int .i64 0,.string ⟨#[]⟩,.string ⟨#[]⟩,.bool false,.int .i64 0,.int .i64 0] 71)).drew from ((Below.refl w3.heap.size w3).alloc (nl_) _).drew);have HZ2:Hd (w3.heap.size<=w3.heap.size):=hi_ (nl_);clear hb3 hsp hslen hspe hrs hnn QN;go_upto_region 8 with fail
 go_cut [13] (fun s13 wx=>∃A,s13=.pointer (some ⟨A,0,none⟩)/\w3.heap.size<=A/\Hd (Blk A (recM h ii dt z n) 71 wx)/\Hd (Below w3.heap.size w3 wx))
 case first=>
  go_region_held3 (fun w'=>Below w3.heap.size w3 w'/\w'.cell? ⟨M.mb,0,none⟩=some (.slice (some ⟨M.g,0,none⟩) M.nodes.length M.cap)/\w'.cell? ⟨M.g,h*7+3,none⟩=some (.string ⟨dt.toArray⟩)) (first|with_reducible assumption|with_reducible exact HSS.o _ (HS3.o.alloc HS3.o.size _)|with_reducible exact HSS.o _ (a0_ (a0_ (a0_ (a0_ (a0_ (a0_ (a0_ (a0_ (a0_ (a0_ (a0_ HS3.o HZ2.o) HZ2.o) HZ2.o) HZ2.o) HZ2.o) HZ2.o) HZ2.o) HZ2.o) HZ2.o) HZ2.o) HZ2.o)|with_reducible exact HSS.o _ HBd.o|with_reducible exact HSS.o _ HBx.o)
   (first|(go_at_call 57;refine(QJ.o _ (by with_reducible assumption)).mono ?_;rintro e w5 ⟨ao5,cap5,rfl,b5,hS5⟩;have HS3:=hi_ hS5.1;(try (have hz:=rec_at3 b5;obtain⟨⟨r0,r1,r2,r3,r4,r5,r6,r7,r8,r9,r10⟩,⟨f0,f1,f2,f3,f4,f5,f6,f7,f8,f9,f10⟩⟩:=bq_ hz;have HZ:=hi_ hz;clear hz));clear b5))
  ·go_wp2_with fail
   go_meet
   exact⟨_,rfl,HS3.o.size,hi_ (Blk.new w5 (recM h ii dt z n) _),hi_ (HS3.o.alloc HS3.o.size _)⟩
  go_wp2_with fail
  go_meet
  exact⟨_,rfl,nl_,hi_ (Blk.set11 HZ.o _ _ _ _ _ _ _ _ _ _ _),hi_ (ev_ HS3.o HZ2.o _ _ _ _ _ _ _ _ _ _ _)⟩
 obtain⟨A,rfl,hA,HRA,HB5⟩:=hcut;clear HSS QJ HBd HBx k3 c0 l0 l1;have HB6:=bt_ HB3 HB5.o;obtain⟨c0,l0,l1⟩:=HTop.o _ HB6.o;have f3:=HFz.o _ HB6.o;have HSr6:=hi_ (HSr3.o.below HB5.o);have D0:=lc_ c0 l0;have j1:=fun W (hW:Below wc.heap.size wc W)=>T.refJoin ao2 cap2 (U.pts dt) 0 (ii:Nat) 0 W HFl.o HLk.o (HSr6.o.below hW) mx1 HLe1.o;have j2:=fun W (hW:Below wc.heap.size wc W)=>T.refJoin ao2 cap2 (U.pts dt) ((ii:Int)+(z:Int)) (ln:Nat) (ii+z) W HFl.o HLk.o (HSr6.o.below hW) (mx2 ii z) HLe2.o;rw[HLn.o,Int.toNat_natCast]at j1 j2;have q1:=hi_ j1;have q2:=hi_ j2;have hsp:=HSpl.o;generalize U.sl (U.pts dt) 0 ii=p1 at *;generalize U.sl (U.pts dt) (ii+z) ln=p2 at *;have hl3:p1.length+rs.length+p2.length=sp.length:=by rw[<-hsp,List.length_append,List.length_append]
 have hsll:=HSln.o;have hadd1:=fun(W:World)=>run_string_add_lists (P:=Tryz.prog) W p1 rs (by omega) (by omega);have hadd2:=fun(W:World)=>run_string_add_lists (P:=Tryz.prog) W (p1++rs) p2 (by rw[List.length_append];omega) (by omega);have HSpe:=hi_ hsp;have hz3:p1.length+rs.length<=9223372036854775807:=by omega
 have hz4:p1.length+rs.length+p2.length<=9223372036854775807:=by omega
 have HDs:=hi_ (fun W (hb:ac_ W M)=>lg_ hb hh sp);have HAl:=HRA.o.lt;clear j1 j2 hsp hl3 hsll HSpl;go_upto_region 9 with fail
 refine aS_ 18 (by kernel_rfl) (by kernel_rfl) ?_;simp only[List.take_succ_cons,List.take_zero,List.drop_succ_cons,List.drop_zero];repeat (go_big_quiet_step (first|(go_at_call_of 56 (Value.int .i64 0);with_reducible exact Calls.later_same (q1.out _ (Later.h _)))|(go_at_call 56;with_reducible exact Calls.later_same (q2.out _ (Later.h _)))))
 refine wq_ (fun dq=>?_);rw[<-List.append_assoc,HSpe.o];have HB7:=bt_ HB6 dq.h;have HRA7:=hi_ (HRA.o.below dq.h);generalize dq.w=w4 at *;clear D0 q1 q2 hadd1 hadd2 hz3 hz4 c0 l0 l1 f3;obtain⟨c0,l0,l1⟩:=HTop.o _ HB7.o;have f3:=HFz.o _ HB7.o;have k3:=HCl.o _ HB7.o;have hAG:A≠M.g:=fun e=>ai_ (HM.o.below HB7.o).row HRA7.o (by decide) (by rw[e];rfl);have hAT':¬A=M.g:=hAG;have hTA:¬M.g=A:=fun e=>hAG e.symm;have hAl:=HRA7.o.lt;obtain⟨⟨r0,r1,r2,r3,r4,r5,r6,r7,r8,r9,r10⟩,_⟩:=bq_ (show Blk A #[.int .i64 4,.int .i64 h,.int .i64 (-1),.int .i64 (-1),.int .i64 (-1),.int .i64 ii,.string ⟨#[]⟩,.string ⟨dt.toArray⟩,.bool false,.int .i64 z,.int .i64 n] 71 _ from HRA7.o);have HM8:=hi_ (HDs.o w4 (HM.o.below HB7.o))
 have HF8:=hi_ (frG (g:=M.g) (H.Frame.of HB7.o) (h*7+3) (.string ⟨sp.toArray⟩));go_wp2_with fail
 have hz:(w4.setCell ⟨M.g,h*7+3,none⟩ (.string ⟨sp.toArray⟩)).heap.size=w4.heap.size:=by simp[World.setCell]
 have hrec:=eI_ (base:=w.heap.size) (w:=w4.setCell ⟨M.g,h*7+3,none⟩ (.string ⟨sp.toArray⟩)) (r:=⟨4,h,none,none,none,ii,[],dt,false,z,n⟩) (cs:=recM h ii dt z n) rfl HF8.o.size;rw[hz]at hrec;refine bodyPost_ret (v:=.tuple #[.slice (some ⟨w4.heap.size,0,none⟩) 1 1,.int .i64 0]) (by simp[results,Tryz.results70,go_sem]) rfl ⟨_,by rw[HRr.o];rfl,HF8.o.alloc _,_,HM8.o.1.below ((br_).alloc (nl_) _),?_,aO_.of_later HM8.o.2.2 HB7.o.size,?_⟩
 ·rw[HRr.o];exact HM8.o.2.1
 rw[HRr.o];exact hrec
theorem bdN{B:Nat}{a w:World}(h:Below B a w)(n:Nat):Below B a (w.drewN n):=h.trans ⟨rfl,rfl,rfl,nl_,fun _ _=>rfl⟩
theorem mg_(M:aJ_)(name data:List UInt8)(v:Value)(l:List BB)(base:Nat)(w:World)(hM:ac_ w M)(hav:ab_ aj_ base 143 2 w v l)(hll:l.length<=60)(hls:∀a,a∈l->a.1.length<=1000/\a.2.length<=1000)(hnm:name.length<=100000)(hlen:M.nodes.length<100000) :
  Calls Tryz.prog 59 #[.pointer (some ⟨M.mb,0,none⟩),.int .i64 2,.string ⟨name.toArray⟩,.string ⟨data.toArray⟩,v] w fun e w'=>jy_ w M e w' (make M.m 2 name data l):=by
 have HM:=hi_ hM;obtain⟨vo,vcap,hv⟩:=ab_.slice hav;subst hv;have HAv:=hi_ hav;obtain⟨R,hR⟩:∃R,R=make M.m 2 name data l:=⟨_,rfl⟩;have HRr:Hd (R=if dc_ name && aW_ l []then some (M.m++[⟨2,name,l.map hK_,[],none,[],false⟩])else none):=hi_ (by rw[hR];unfold make;rw[if_pos rfl];rfl);rw[<-hR];have QE:=hi_ (fun W=>n5_ name W hnm);have QH:=hi_ (fun(s:List UInt8) (hs:s.length<=1000) W=>mj_ s W (by omega));have QR:=hi_ (fun(s:List UInt8) (hs:s.length<=1000) W=>dp_ s W (by omega));have hb1:=(Below.refl w.heap.size w).alloc (nl_) (.cells #[.int .i64 2,.string ⟨#[]⟩,.slice none 0 0,.string ⟨#[]⟩,.int .i64 (-1),.slice none 0 0,.bool false] 105);have HB1:=hi_ hb1
 have HX1:=hi_ (Blk.new w #[.int .i64 2,.string ⟨#[]⟩,.slice none 0 0,.string ⟨#[]⟩,.int .i64 (-1),.slice none 0 0,.bool false] 105);have HLs:=hi_ hls;clear hM hb1 hR hav hls
 go_enter Tryz.func59,Tryz.ntmps59
 go_wp2_with fail
 generalize w.alloc (.cells #[.int .i64 2,.string ⟨#[]⟩,.slice none 0 0,.string ⟨#[]⟩,.int .i64 (-1),.slice none 0 0,.bool false] 105)=w1 at *;refine(QE.o w1).mono ?_;rintro e w2 ⟨rfl,hb2⟩;have HX2:=hi_ (HX1.o.below hb2);have HB2:=bt_ HB1 hb2;clear hb2 QE HX1 HB1
 cases he:dc_ name with
 |false=>
  have HRs:Hd (R=none):=hi_ (by rw[HRr.o,he];rfl);clear he HRr;go_wp2_with fail
  refine bodyPost_ret (v:=.int .i64 1) (by simp[results,Tryz.results59,go_sem]) rfl ?_;rw[HRs.o];exact⟨M,rfl,H.Frame.of HB2.o,HM.o.below HB2.o,rfl,aO_.refl _ _⟩
 |true=>
  have HRr2:Hd (R=if aW_ l []then some (M.m++[⟨2,name,l.map hK_,[],none,[],false⟩])else none):=hi_ (by rw[HRr.o,he];rfl);have HA0:Hd (aW_ l []=aW_ (l.drop 0) ((l.take 0).map (·.1))):=hi_ rfl;clear he HRr;go_wp2_with fail
  go_loopw [12] (fun v12 wr=>∃(i:Nat) (bo:Option Addr) (bcap:Nat),v12=.int .i64 (i:Nat)/\i<=l.length/\Hd (Below w.heap.size w wr)/\Hd (Blk w.heap.size #[.int .i64 2,.string ⟨#[]⟩,.slice bo i bcap,.string ⟨#[]⟩,.int .i64 (-1),.slice none 0 0,.bool false] 105 wr)/\Hd (wr.ownsRow w.heap.size 143 2 (.slice bo i bcap) i (((l.take i).map hK_).flatMap aj_))/\Hd (aW_ l []=aW_ (l.drop i) ((l.take i).map (·.1))))
   (fun v12 _=>l.length-(a2_ v12).toNat)
  case atStart=>exact⟨0,none,0,rfl,Nat.zero_le _,HB2,HX2,hi_ ⟨rfl,Or.inl ⟨rfl,rfl⟩⟩,HA0⟩
  obtain⟨i,bo,bcap,rfl,hi,HB,HX,HO,HA⟩:=hrel;clear HA0 HX2 HB2
  rcases Nat.lt_or_ge i l.length with hlt|hge
  ·obtain⟨g0,cap',hv,hg0b,hg0l,_⟩:=a1_ HAv.o (by omega)
   injection hv with e1 _ e3
   subst e1 e3;have HA2:Hd (ab_ aj_ base 143 2 wr (.slice (some ⟨g0,0,none⟩) l.length vcap) l):=hi_ (own_below HAv.o HB.o);have hgl:=(ad_ HA2.o).1;have hc0:=(ab_.cell ar_ HA2.o hlt (k:=0) (by omega)).1;have hc1:=(ab_.cell ar_ HA2.o hlt (k:=1) (by omega)).1;have HTk:Hd (((l.take (i+1)).map hK_).flatMap aj_=((l.take i).map hK_).flatMap aj_++aj_ (hK_ l[i])):=hi_ (by
    rw[List.take_add_one,List.getElem?_eq_getElem hlt,List.map_append,List.flatMap_append];simp)
   have hok:=ok_from l i hlt ((l.take i).map (·.1));rw[lR_ l i hlt]at hok;have HOk:=hi_ hok;have HSn:=hi_ (fun x h=>nL_ l i x h);have HSy:=hi_ (fun k hk hkl x h=>nK_ l i k hk hkl x h);have hsh:=HLs.o l[i] (List.getElem_mem hlt);generalize hli:l[i]=a at *;obtain⟨nm,vl⟩:=a;have HIl:=hi_ hli;clear hli;have k0:wr.cell? ⟨g0,i*2,none⟩=some (.string ⟨nm.toArray⟩):=hc0;have k1:wr.cell? ⟨g0,i*2+1,none⟩=some (.string ⟨vl.toArray⟩):=hc1;have hii:(i:Int)<(l.length:Int):=by omega
   have p0:(0:Int)<=(i:Int):=by omega
   have hsh1:nm.length<=1000:=hsh.1;have hsh2:vl.length<=1000:=hsh.2;have HK1:=hi_ k1;have Q4:=hi_ (QH.o nm hsh1 wr);clear hc0 hc1 hok hsh k1;go_wp2_with fail
   refine Q4.o.mono ?_;rintro e w4 ⟨rfl,hb4⟩;have HB4:=bt_ HB hb4;have HX4:=hi_ (HX.o.below hb4);have HO4:=hi_ (own_below HO.o hb4);have HA4:Hd (ab_ aj_ base 143 2 w4 (.slice (some ⟨g0,0,none⟩) l.length vcap) l):=hi_ (own_below HA2.o hb4);have hgl4:=Nat.lt_of_lt_of_le hgl hb4.size;clear k0 hgl hb4 Q4 HB HX HO HA2 HK1
   cases hho:bE_ nm with
   |false=>
    have HRs:Hd (R=none):=hi_ (by rw[HRr2.o,HA.o,HOk.o,hho];rfl);clear hho;go_wp2_with fail
    refine bodyPost_ret (v:=.int .i64 1) (by simp[results,Tryz.results59,go_sem]) rfl ?_;rw[HRs.o];exact⟨M,rfl,H.Frame.of HB4.o,HM.o.below HB4.o,rfl,aO_.refl _ _⟩
   |true=>
    have HOk2:Hd (aW_ l []=(!((l.take i).map (·.1)).contains nm && aW_ (l.drop (i+1)) ((l.take (i+1)).map (·.1)))):=hi_ (by rw[HA.o,HOk.o,hho,Bool.true_and]);clear hho HOk HA;go_wp2_with fail
    have hwq:IntKind.i64.wrap ((i:Int)+1)=(i:Int)+1:=IntWalk.i64_in _ (by omega);have HB40:=hi_ (Below.refl w4.heap.size w4)
    go_loopw [13] (fun v13 wi=>∃k:Nat,v13=.int .i64 (k:Nat)/\k<=i/\Hd (Below w4.heap.size w4 wi)/\Hd (∀j a,j<k->l[j]?=some a->(a.1==nm)=false)) (fun v13 _=>i-(a2_ v13).toNat)
    case atStart=>exact⟨0,rfl,Nat.zero_le _,HB40,hi_ (fun j a hj=>by omega)⟩
    obtain⟨k,rfl,hk0,HBi,HN⟩:=hrel;have HAi:=hi_ (own_below HA4.o HBi.o);have hgli:=Nat.lt_of_lt_of_le hgl4 HBi.o.size;have hc0:=(ab_.cell ar_ HAi.o hlt (k:=0) (by omega)).1;rw[HIl.o]at hc0;have k0:wr.cell? ⟨g0,i*2,none⟩=some (.string ⟨nm.toArray⟩):=hc0;clear hc0
    rcases Nat.lt_or_ge k i with hki|hki
    ·have hkl:k<l.length:=by omega
     have hc0:=(ab_.cell ar_ HAi.o hkl (k:=0) (by omega)).1;have HSy2:=hi_ (HSy.o k hki hkl nm);have HG:Hd (l[k]?=some l[k]):=hi_ (List.getElem?_eq_getElem hkl);generalize l[k]=b at *;obtain⟨x,y⟩:=b;have j0:wr.cell? ⟨g0,k*2,none⟩=some (.string ⟨x.toArray⟩):=hc0;have hkk:(k:Int)<(i:Int):=by omega
     have hkk2:(k:Int)<(l.length:Int):=by omega
     have q0:(0:Int)<=(k:Int):=by omega
     have wq:IntKind.i64.wrap ((k:Int)+1)=(k:Int)+1:=IntWalk.i64_in _ (by omega);have heq:((⟨x.toArray⟩:ByteArray).toList==(⟨nm.toArray⟩:ByteArray).toList)=(x==nm):=by rw[Lib.toList_data,Lib.toList_data]
     generalize (⟨x.toArray⟩:ByteArray)=X at *;generalize hSe:(⟨nm.toArray⟩:ByteArray)=S at *;clear hc0;go_upto_region 13 with fail
     cases hq:(x==nm) with
     |true=>
      rw[hq]at heq;have HRs:Hd (R=none):=hi_ (by rw[HRr2.o,HOk2.o,HSy2.o hq];rfl);clear hq HOk2 HSy2
      go_quiet (fail)
      have HBq:=hi_ (bdN (HB4.o.trans (HBi.o.mono HB4.o.size)) nq);generalize wr.drewN nq=wd at *;go_wp2_with fail
      refine bodyPost_ret (v:=.int .i64 1) (by simp[results,Tryz.results59,go_sem]) rfl ?_;rw[HRs.o];exact⟨M,rfl,H.Frame.of HBq.o,HM.o.below HBq.o,rfl,aO_.refl _ _⟩
     |false=>
      rw[hq]at heq;have HN2:Hd (∀j a,j<k+1->l[j]?=some a->(a.1==nm)=false):=hi_ (fun j a hj ha=>by
       rcases Nat.lt_or_ge j k with h|h
       ·exact HN.o j a h ha
       have e:j=k:=by omega
       subst e;rw[HG.o]at ha;injection ha with ha
       rw[<-ha];exact hq)
      clear hq HSy2
      go_quiet (fail)
      have HBq:=hi_ (bdN HBi.o nq);generalize wr.drewN nq=wd at *;go_wp2_with fail
      go_roundw
      case rel=>exact⟨k+1,by go_num,by omega,HBq,HN2⟩
      simp[a2_];omega
    have hke:k=i:=by omega
    subst hke;have HBw:=bt_ HB4 HBi.o;have HXw:=hi_ (HX4.o.below HBi.o);have HOw:=hi_ (own_below HO4.o HBi.o);have hc1:=(ab_.cell ar_ HAi.o hlt (k:=1) (by omega)).1;rw[HIl.o]at hc1;have k1:wr.cell? ⟨g0,k*2+1,none⟩=some (.string ⟨vl.toArray⟩):=hc1;have HOk3:Hd (aW_ l []=aW_ (l.drop (k+1)) ((l.take (k+1)).map (·.1))):=hi_ (by rw[HOk2.o,HSn.o nm HN.o];rfl);obtain⟨⟨_,_,x2,_⟩,⟨_,fx2,_⟩⟩:=e0_ HXw.o;have hlX:=HXw.o.lt;have hnl:¬(k:Int)<(k:Int):=by omega
    have HlX:=hi_ hlX;have Hgl:=hi_ hgli;have HK0:=hi_ k0;have HX2c:=hi_ x2;have HNo:=hi_ (ai_ HOw.o HXw.o (by decide));obtain⟨i0,hi0,hz0,hz1,hz2⟩:=info_parts eP_;have HBd:=hi_ (Below.refl wr.heap.size wr).drew;clear hc1 HOk2 HSn HSy HN HX4 HO4 HB4 HA4 hgl4 HB40 hki hk0;go_upto_region 15 with fail
    go_region_law
     (first
      | (go_simp
         go_at_call 113
         refine(QR.o vl hsh2 _).mono ?_;rintro e w6 ⟨rfl,b6⟩;have HB6:=bt_ HBd b6;have hs6:=HB6.o.size;have hlE6:g0<w6.heap.size:=Nat.lt_of_lt_of_le Hgl.o hs6;have hlX6:w.heap.size<w6.heap.size:=Nat.lt_of_lt_of_le HlX.o hs6;have e60:=(HB6.o.cell (p:=⟨g0,k*2,none⟩) Hgl.o).trans HK0.o;have e62:=(HB6.o.cell (p:=⟨w.heap.size,2,none⟩) HlX.o).trans HX2c.o;clear b6 hs6
         go_simp)
      | (with_reducible refine bo_ (w6.alloc (.cells #[.string ⟨nm.toArray⟩, .string ⟨(U.rep vl).toArray⟩] 143)) ?_
         refine step_append_lies _ (by rfl) _ _ 103 (by rfl) w.heap.size 143 i0 _ 2 32 Tryz.underlying103 hi0 hz0 hz1 hz2 rfl (by omega) (.slice bo k bcap) k (((l.take k).map hK_).flatMap aj_) (by rfl) (World.ownsRow.alloc (own_below HOw.o HB6.o) _) ⟨w6.heap.size,0,none⟩ 1 1 [.string ⟨nm.toArray⟩,.string ⟨(U.rep vl).toArray⟩] (by rfl) (by rfl) (World.news_of_block (cs:=#[.string ⟨nm.toArray⟩,.string ⟨(U.rep vl).toArray⟩]) (heap_alloc_new w6 (.cells #[.string ⟨nm.toArray⟩,.string ⟨(U.rep vl).toArray⟩] 143))) (by simp[Value.oneCell']) (by omega) (by unfold maxLen;omega) (by omega) (by have:=HB6.o.size;have:=HBw.o.size;simp<;>omega) (w6.heap.size+1) (by simp) ?_;intro gg cap2 w7 hown7 hgrow hat hlt7
         have hbk:Blk w.heap.size #[.int .i64 2,.string ⟨#[]⟩,.slice bo k bcap,.string ⟨#[]⟩,.int .i64 (-1),.slice none 0 0,.bool false] 105 w7:=(hgrow.block w.heap.size (by have:=HB6.o.size;have:=HlX.o;simp<;>omega) (fun h=>HNo.o h.symm)).trans ((HXw.o.below HB6.o).alloc _);obtain⟨⟨_,_,e72,_⟩,⟨_,g72,_⟩⟩:=e0_ hbk;have hltb:=hbk.lt))
    all_goals (
     have hs6:=HB6.o.size;have hsE:=HBw.o.size;have HB7:=hi_ (((HBw.o.trans (HB6.o.mono hsE)).alloc (by omega) _).grown hgrow (by simp;omega) (fun k e=>(HOw.o.lt k e).1));have HX8:=hi_ (Blk.n2 hbk (.slice (some ⟨gg,0,none⟩) (k+1) cap2));have HB8:=hi_ (HB7.o.setCell (p:=⟨w.heap.size,2,none⟩) (nl_) (.slice (some ⟨gg,0,none⟩) (k+1) cap2));have HO8:=hi_ (bk_ hown7 hbk (by decide) 2 (.slice (some ⟨gg,0,none⟩) (k+1) cap2));have HO9:Hd (World.ownsRow (w7.setCell ⟨w.heap.size,2,none⟩ (.slice (some ⟨gg,0,none⟩) (k+1) cap2)) w.heap.size 143 2 (.slice (some ⟨gg,0,none⟩) (k+1) cap2) (k+1) (((l.take (k+1)).map hK_).flatMap aj_)):=hi_ (by rw[HTk.o];exact HO8.o);clear HO8 HB7 hown7 hgrow hat hbk;go_wp2_with fail
     go_roundw
     case rel=>exact⟨k+1,some ⟨gg,0,none⟩,cap2,by go_num,by omega,HB8,HX8,HO9,HOk3⟩
     simp[a2_];omega)
  have hie:i=l.length:=by omega
  subst hie;have hnot:¬((l.length:Nat):Int)<((l.length:Nat):Int):=by omega
  obtain⟨x,hx⟩:∃x:b0_,x=⟨⟨2,name,l.map hK_,[],none,[],false⟩,.slice bo l.length bcap,.slice none 0 0⟩:=⟨_,rfl⟩;have HXe:=hi_ hx;have HRs:Hd (R=some (M.m++[x.n])):=hi_ (by
   rw[HRr2.o,HA.o,List.drop_length,aW_,if_pos rfl,hx])
  have HA3:Hd (ab_ aj_ w.heap.size 143 2 wr x.av x.n.attrs):=hi_ (by
   have h1:=HO.o;rw[List.take_length]at h1;rw[hx];unfold ab_;dsimp only;rw[List.length_map];exact h1)
  have HNc:Hd (bU_ x=[.int .i64 2,.string ⟨name.toArray⟩,.slice bo l.length bcap,.string ⟨#[]⟩,.int .i64 (-1),.slice none 0 0,.bool false]):=hi_ (by rw[hx];rfl);obtain⟨_,⟨f1,_,_⟩⟩:=e0_ HX.o;have hlX:=HX.o.lt;have HX3:=hi_ (Blk.n1 HX.o (.string ⟨name.toArray⟩));have HB3:=hi_ (HB.o.setCell (p:=⟨w.heap.size,1,none⟩) (nl_) (.string ⟨name.toArray⟩));have HA4:Hd (ab_ aj_ w.heap.size 143 2 (World.setCell wr ⟨w.heap.size,1,none⟩ (.string ⟨name.toArray⟩)) x.av x.n.attrs):=hi_ (bk_ HA3.o HX.o (by decide) 1 _);clear hx HRr2 HA HO HA3 HX HB QH QR;go_upto_region 18 with fail
  generalize World.setCell wr ⟨w.heap.size,1,none⟩ (.string ⟨name.toArray⟩)=w3 at *;have HM3:=hi_ (HM.o.below HB3.o);obtain⟨c0,l0,l1⟩:=HM3.o.top;obtain⟨⟨a0,a1,a2,a3,a4,a5,a6⟩,_⟩:=e0_ HX3.o;have hlX3:=HX3.o.lt;have HE:=hi_ (fun w' g cap f hr hg=>hs_ (w0:=w) (w:=w3) (w':=w') (M:=M) (x:=x) (g:=g) (cap:=cap) HM3.o HB3.o HM.o f (by omega) hr hg (by rw[HXe.o]) (by rw[HXe.o]));have hbb:=HM.o.bb;have hml:=HM.o.blk.lt;have hws:=HB3.o.size;have hfew:=HM.o.few;have hgm:M.mb≠M.g:=fun e=>ai_ HM3.o.row HM3.o.blk (by decide) (by rw[e];rfl);have hga:∀k,x.av.ownBlock=some k->k≠M.g:=fun k hk e=>by
   have h1:=(World.ownsRow.lt HA4.o k hk).1;have h2:=(ad_ HM.o.row).1;omega
  have HGm:=hi_ hgm;have HGa:=hi_ hga;obtain⟨i0,hi0,hz0,hz1,hz2⟩:=info_parts f8_;clear hgm hga
  go_region_law ((refine step_append_lies _ (by rfl) _ _ _ (by rfl) M.B 105 i0 _ 7 104 Tryz.underlying100 hi0 hz0 hz1 hz2 rfl (by omega) (.slice (some ⟨M.g,0,none⟩) M.nodes.length M.cap) M.nodes.length (M.nodes.flatMap bU_) (by rfl) ((World.ownsRow.alloc HM3.o.row _).drew) ⟨w3.heap.size,0,none⟩ 1 1 [.int .i64 2,.string ⟨name.toArray⟩,.slice bo l.length bcap,.string ⟨#[]⟩,.int .i64 (-1),.slice none 0 0,.bool false] (by rfl) (by rfl) (World.news_of_block (cs:=#[.int .i64 2,.string ⟨name.toArray⟩,.slice bo l.length bcap,.string ⟨#[]⟩,.int .i64 (-1),.slice none 0 0,.bool false]) (t:=105) (fr:=(0,0)) (heap_alloc_new w3 _)) (by simp[Value.oneCell']) (by omega) (by unfold maxLen;omega) (by omega) (by simp;omega) (w3.heap.size+1) (by simp) ?_;intro gg cap2 w5 hown5 hgrow hat5 hlt5;have hF5:H.Frame (fun k=>k=M.g) w3 w5:=H.Frame.grown (S:=fun k=>k=M.g) (Frame.drew (Frame.alloc (H.Frame.refl _ w3) _)) hgrow (fun k hk=>Or.inl (by have hk:some M.g=some k:=hk;injection hk with hk;exact hk.symm));have hb5:=HM3.o.blk.frame hF5 HGm.o;have d0:=(ae_ hb5).1 0;have m0:=hb5.lt;have g0:=(ae_ hb5).2 0 (by simp)))
  all_goals (
   have hA5:=ak_ HA4.o hF5 HGa.o;have hfin:=HE.o w5 gg cap2 hF5 (by rw[HNc.o];exact hown5) (hat5.imp (fun e=>by have e:some M.g=some gg:=e;injection e) (fun e=>by omega)) hA5;have HFin:=hi_ hfin;clear hfin hA5 hown5 hgrow hat5 hF5 hb5;go_wp2_with fail
   refine bodyPost_ret (v:=.int .i64 0) (by simp[results,Tryz.results59,go_sem]) rfl ?_;rw[HRs.o];exact⟨_,rfl,HFin.o.2.1,HFin.o.1,app_m M x gg cap2,HFin.o.2.2⟩)
end R
end
end Go.Proofs.YtinphfpdfodkkaaGreatDoor
