/- Texts. -/
import Derived.Test.YtinphfpdfodkkaaGreatDoorS12
set_option linter.unusedVariables false
set_option linter.unusedSimpArgs false
set_option maxHeartbeats 8000000
set_option maxRecDepth 100000
namespace Go.Proofs.YtinphfpdfodkkaaGreatDoor
section
open Go.RowKit Go.Sort
namespace R
open H G A
def aJ_.modN(M:aJ_)(i:Nat)(f:b0_->b0_):aJ_:={ M with nodes:=M.nodes.modify i f }
theorem cC_(M:aJ_)(i:Nat)(f:b0_->b0_):(M.modN i f).nodes.length=M.nodes.length:=by unfold aJ_.modN;simp
theorem fh_{M:aJ_}{i:Nat}{f:b0_->b0_}(h:i<M.nodes.length)(j:Nat):(M.modN i f).at_ j=if j=i then f (M.at_ j)else M.at_ j:=by
 unfold aJ_.at_ aJ_.modN
 by_cases hj:j=i
 ·subst hj
  simp[List.getD,List.getElem?_modify,h]
 have h2:¬i=j:=fun e=>hj e.symm;simp[List.getD,List.getElem?_modify,h2,hj]
theorem el_(M:aJ_)(i:Nat)(f:b0_->b0_)(F:G.Node->G.Node)(hf:∀x,(f x).n=F x.n):(M.modN i f).m=upd M.m i F:=by
 unfold aJ_.m aJ_.modN upd;apply List.ext_getElem?;intro k;rw[List.getElem?_map,List.getElem?_modify,List.getElem?_modify,List.getElem?_map]
 cases M.nodes[k]? with
 |none=>split<;>rfl
 |some x=>
  split
  ·show some (f x).n=some (F x.n)
   rw[hf]
  rfl
section
variable {w:World} {M:aJ_}
theorem ac_.store(h:ac_ w M){i k:Nat}(hi:i<M.nodes.length)(hk:k<7)(u:Value)(f:b0_->b0_)(hf:bU_ (f (M.at_ i))=(bU_ (M.at_ i)).set k u)
  (h1:cd_ M.B w (f (M.at_ i)).kv (f (M.at_ i)).n.kids) (h2:ab_ aj_ M.B 143 2 w (f (M.at_ i)).av (f (M.at_ i)).n.attrs)
  (h3:∀j,j≠i->j<M.nodes.length->∀g,(f (M.at_ i)).kv.ownBlock=some g->(M.at_ j).kv.ownBlock≠some g) (h4:∀j,j≠i->j<M.nodes.length->∀g,(f (M.at_ i)).av.ownBlock=some g->(M.at_ j).av.ownBlock≠some g) :
  ac_ (w.setCell ⟨M.g,i*7+k,none⟩ u) (M.modN i f):=by
 have hg1:M.mb≠M.g:=fun e=>ai_ h.row h.blk (by decide) (by rw[e];rfl);have hgk:∀{v l},cd_ M.B w v l->v.ownBlock≠some M.g:=fun hv e=>aQ_ hv h.row (by decide) e rfl;have hga:∀{v:Value} {l:List (List UInt8×List UInt8)},ab_ aj_ M.B 143 2 w v l->v.ownBlock≠some M.g:=fun hv e=>aQ_ hv h.row (by decide) e rfl;have hlen:=cC_ M i f;have hat:=fh_ (f:=f) hi;have key:∀x,x∈(M.modN i f).nodes->∃j,j<M.nodes.length/\(M.modN i f).at_ j=x:=fun x hx=>by
  obtain⟨j,hj⟩:=List.mem_iff_getElem?.1 hx;have hjl:j<(M.modN i f).nodes.length:=by
   rcases Nat.lt_or_ge j (M.modN i f).nodes.length with h5|h5
   ·exact h5
   rw[List.getElem?_eq_none h5]at hj;cases hj
  refine⟨j,by rw[<-hlen];exact hjl,?_⟩;rw[(aJ_.at_mem hjl).1];rw[List.getElem?_eq_getElem hjl]at hj;injection hj
 refine⟨?_,?_,by rw[hlen];exact h.few,h.bb,fun x hx=>?_,fun x hx=>?_,fun a b ha hb hne g hg=>?_,fun a b ha hb hne g hg=>?_⟩
 ·have h5:=h.blk.far hg1 (i*7+k) u
  rw[hlen];exact h5
 ·exact ab_.store aV_ h.row hi hk u f (by rw[<-(aJ_.at_mem hi).1];exact hf)
 ·obtain⟨j,hj,rfl⟩:=key x hx
  rw[hat]
  by_cases e:j=i
  ·rw[if_pos e,e]
   exact au_ h1 (hgk h1) _ _
  rw[if_neg e];exact au_ (h.kids _ (aJ_.at_mem hj).2) (hgk (h.kids _ (aJ_.at_mem hj).2)) _ _
 ·obtain⟨j,hj,rfl⟩:=key x hx
  rw[hat]
  by_cases e:j=i
  ·rw[if_pos e,e]
   exact au_ h2 (hga h2) _ _
  rw[if_neg e];exact au_ (h.attrs _ (aJ_.at_mem hj).2) (hga (h.attrs _ (aJ_.at_mem hj).2)) _ _
 ·rw[hlen]at ha hb
  rw[hat]at hg ⊢
  by_cases e:a=i
  ·have e2:¬b=i:=fun e2=>hne (e.trans e2.symm)
   rw[if_pos e,e]at hg;rw[if_neg e2];exact h3 b e2 hb g hg
  rw[if_neg e]at hg
  by_cases e2:b=i
  ·rw[if_pos e2,e2]
   exact fun h5=>h3 a e ha g h5 hg
  rw[if_neg e2];exact h.kapart a b ha hb hne g hg
 rw[hlen]at ha hb;rw[hat]at hg ⊢
 by_cases e:a=i
 ·have e2:¬b=i:=fun e2=>hne (e.trans e2.symm)
  rw[if_pos e,e]at hg;rw[if_neg e2];exact h4 b e2 hb g hg
 rw[if_neg e]at hg
 by_cases e2:b=i
 ·rw[if_pos e2,e2]
  exact fun h5=>h4 a e ha g h5 hg
 rw[if_neg e2];exact h.aapart a b ha hb hne g hg
theorem ac_.storeP(h:ac_ w M){i k:Nat}(hi:i<M.nodes.length)(hk:k<7)(u:Value)(f:b0_->b0_)(hf:bU_ (f (M.at_ i))=(bU_ (M.at_ i)).set k u)
  (h1:(f (M.at_ i)).kv=(M.at_ i).kv/\(f (M.at_ i)).n.kids=(M.at_ i).n.kids/\(f (M.at_ i)).av=(M.at_ i).av/\(f (M.at_ i)).n.attrs=(M.at_ i).n.attrs) :
  ac_ (w.setCell ⟨M.g,i*7+k,none⟩ u) (M.modN i f):=by
 obtain⟨e1,e2,e3,e4⟩:=h1;refine h.store hi hk u f hf (by rw[e1,e2];exact h.kids _ (aJ_.at_mem hi).2) (by rw[e3,e4];exact h.attrs _ (aJ_.at_mem hi).2) (fun j hj hjl g hg=>?_) (fun j hj hjl g hg=>?_)
 ·rw[e1]at hg
  exact h.kapart i j hi hjl (fun e=>hj e.symm) g hg
 rw[e3]at hg;exact h.aapart i j hi hjl (fun e=>hj e.symm) g hg
end
theorem b5_{M:aJ_}{i:Nat}{f:b0_->b0_}(hi:i<M.nodes.length){k:Nat}(h:(M.modN i f).foot k):M.foot k\/(f (M.at_ i)).kv.ownBlock=some k\/(f (M.at_ i)).av.ownBlock=some k:=by
 rcases h with h|h|⟨x,hx,h⟩
 ·exact Or.inl (Or.inl h)
 ·exact Or.inl (Or.inr (Or.inl h))
 obtain⟨j,hj⟩:=List.mem_iff_getElem?.1 hx;have hjl:j<(M.modN i f).nodes.length:=by
  rcases Nat.lt_or_ge j (M.modN i f).nodes.length with h5|h5
  ·exact h5
  rw[List.getElem?_eq_none h5]at hj;cases hj
 have e:(M.modN i f).at_ j=x:=by
  rw[(aJ_.at_mem hjl).1];rw[List.getElem?_eq_getElem hjl]at hj;injection hj
 rw[fh_ hi]at e;have hjl':j<M.nodes.length:=by rw[<-cC_ M i f];exact hjl
 by_cases e2:j=i
 ·rw[if_pos e2,e2]at e
  rw[<-e]at h;exact Or.inr h
 rw[if_neg e2]at e;rw[<-e]at h;exact Or.inl (Or.inr (Or.inr ⟨_,(aJ_.at_mem hjl').2,h⟩))
theorem ac_.beside{w w':World}{M:aJ_}(h:ac_ w M){b:Nat}{cs:Array Value}{t:TypeId}(hb:Blk b cs t w)(f:H.Frame (fun k=>k=b) w w')(h1:102≠t)(h2:105≠t)(h3:3≠t)(h4:143≠t):ac_ w' M:=
 h.frame f (fun k hk e=>by
  have e:k=b:=e;subst e
  rcases hk with hk|hk|⟨x,hx,hk|hk⟩
  ·have h5:=h.blk
   rw[<-hk]at h5;exact h1 (cD_ h5 hb)
  ·exact ai_ h.row hb h2 (by rw[hk];rfl)
  ·exact ai_ (h.kids x hx) hb h3 hk
  exact ai_ (h.attrs x hx) hb h4 hk)
def aX_(r:Rec):List Value:=[.int .i64 r.kind,.int .i64 r.target,.int .i64 (ch_ r.node),.int .i64 (ch_ r.prev),.int .i64 (ch_ r.next),.int .i64 r.index,.string ⟨r.name.toArray⟩,.string ⟨r.old.toArray⟩,.bool r.had,.int .i64 r.count,.int .i64 r.size]
theorem eq_(r:Rec):(aX_ r).length=11:=rfl
theorem kn_{l:List Nat}{i:Nat}(hi:i<=l.length):atI l ((i:Int)-1)=ch_ (dq_ l i):=by
 unfold atI dq_
 by_cases h0:i=0
 ·rw[if_pos h0,if_pos (by omega)];rfl
 rw[if_neg h0,if_neg (by omega),show((i:Int)-1).toNat=i-1 by omega]
 cases l[i-1]?<;>rfl
theorem ju_{l:List Nat}{i:Nat}:atI l (i:Int)=ch_ l[i]?:=by
 unfold atI;rw[if_neg (by omega),Int.toNat_natCast]
 cases l[i]?<;>rfl
end R
end
section
open Go.RowKit Go.Sort
namespace R
open H G A
theorem bO_{P:Program}{w:World}{ops:Array Oper}{o:Oper}{a:Act}{K:Act->World->Prop}{Q:Exit->Act->World->Prop}{E:Prop}(hgd:o.guard=none)(s x:Operand)(t:TypeId)
  (ho:o.op=.call { callee:=.builtin .append,args:=#[s,x],argTypes:=#[t,t] })
  (base:Nat) (e:TypeId) (i:TypeInfo) (z:Value) (size bytes:Nat) (ht:P.underlying t=some (.slice e)) (hi:P.info? e=some i) (hz:i.zero=some z)
  (hsize:i.size=size) (hby:i.bytes=bytes) (hzs:z.cells.size=size) (hsz:0<size)
  (v:Value) (n:Nat) (xs:List Value) (hs:a.eval s=v) (hown:w.ownsRow base e size v n xs)
  (ad:Addr) (m c:Nat) (news:List Value) (hx:a.eval x=.slice (some ad) m c) (hl:news.length=m*size) (hnews:∀j u,news[j]?=some u->w.cell? (ad.add j)=some u) (h1:∀u∈news,u.oneCell'=true)
  (h63:n+m<=maxLen) (hbytes:(n+m)*bytes<=140737488355328) (hbase:base<=w.heap.size)
  (h:∀v' w',w'.ownsRow base e size v' (n+m) (xs++news)->w.grownBy w' v.ownBlock->(v'=.slice none 0 0↔v=.slice none 0 0/\m=0)->K (a.put o.dst v') w') :
  if Region.wanted o (yielded ops a.tmps)=true then Oper.wp P o a w K Q else E:=by
 have hw:Region.wanted o (yielded ops a.tmps)=true:=by simp[Region.wanted,hgd]
 rw[if_pos hw];exact wp_append_own w s x t ho base e i z size bytes ht hi hz hsize hby hzs hsz v n xs hs hown ad m c news hx hl hnews h1 h63 hbytes hbase h
theorem aY_{w:World}{base:Nat}{e:TypeId}{size n:Nat}{v:Value}{xs:List Value}(h:w.ownsRow base e size v n xs):∃ao cap,v=.slice ao n cap:=by
 rcases h.2 with⟨h1,h2⟩|⟨g,cap,cur,h1,_⟩
 ·exact⟨none,0,by rw[h1,h2]⟩
 exact⟨_,cap,h1⟩
theorem dK_(g o j:Nat):(⟨g,o,none⟩:Addr).add j=⟨g,o+j,none⟩:=by unfold Addr.add;split<;>simp_all
theorem bl_(l:List Nat):∀u∈aF_ l,u.oneCell'=true:=by
 intro u hu;unfold aF_ at hu;obtain⟨x,_,rfl⟩:=List.mem_map.1 hu;rfl
theorem mCut(M:aJ_)(h p:Nat)(w:World)(hM:ac_ w M)(W:WF M.m)(hh:h<M.nodes.length)(hp:(nd M.m h).parent=some p) :
  Calls Tryz.prog 124 #[.pointer (some ⟨M.mb,0,none⟩),.int .i64 h] w fun e w'=>∃M',e=.returned (.agg (aX_ (bm_ M.m h p)).toArray)/\H.Frame (fun k=>k=M.g) w w'/\ac_ w' M'/\M'.m=cut M.m h p/\M'.mb=M.mb/\M'.g=M.g/\M'.B=M.B/\M'.nodes.length=M.nodes.length/\(∀k,M'.foot k->M.foot k\/w.heap.size<=k):=by
 obtain⟨c0,l0,l1⟩:=hM.top;have hpl:p<M.nodes.length:=by rw[<-M.m_len];exact(W.lt hp).2
 have n1:(h:Int)<(M.nodes.length:Int):=by omega
 have n2:(p:Int)<(M.nodes.length:Int):=by omega
 have HMb:=hi_ (fun W' (hb:Below w.heap.size w W')=>hM.below hb);have QI:=hi_ (fun W' (hb:Below w.heap.size w W')=>mi_ M h p W' (hM.below hb) W hh hp);have hmem:=(W.par h p hp).2;have hlt:=List.idxOf_lt_length_of_mem hmem;have k4:=(hM.cell hh).2.2.2.2.1;rw[hp]at k4;have k4':w.cell? ⟨M.g,h*7+4,none⟩=some (.int .i64 p):=k4;have HMm:=hi_ hM;have HPar:=hi_ hp;have HHl:=hi_ hh;have HPl:=hi_ hpl;have hB1:=(Below.refl w.heap.size w).alloc (nl_) (.cells #[.int .i64 0,.int .i64 0,.int .i64 0,.int .i64 0,.int .i64 0,.int .i64 0,.string ⟨#[]⟩,.string ⟨#[]⟩,.bool false,.int .i64 0,.int .i64 0] 71);have HB1:=hi_ hB1
 have HR1:=hi_ (Blk.new w #[.int .i64 0,.int .i64 0,.int .i64 0,.int .i64 0,.int .i64 0,.int .i64 0,.string ⟨#[]⟩,.string ⟨#[]⟩,.bool false,.int .i64 0,.int .i64 0] 71);have C0:=hi_ c0;have K4:=hi_ k4';clear hM k4 k4' hp hh hpl hB1 c0
 go_enter Tryz.func124,Tryz.ntmps124
 go_wp2_with fail
 generalize hW1:w.alloc (.cells #[.int .i64 0,.int .i64 0,.int .i64 0,.int .i64 0,.int .i64 0,.int .i64 0,.string ⟨#[]⟩,.string ⟨#[]⟩,.bool false,.int .i64 0,.int .i64 0] 71)=w1 at *;have d0:=(HB1.o.cell (p:=⟨M.mb,0,none⟩) l0).trans C0.out;have d4:=(HB1.o.cell (p:=⟨M.g,h*7+4,none⟩) l1).trans K4.out;have m0:=Nat.lt_of_lt_of_le l0 HB1.o.size;have m1:=Nat.lt_of_lt_of_le l1 HB1.o.size;have D0:=lc_ d0 m0;have D4:=lc_ d4 m1;clear hW1;refine af_ (by kernel_rfl) (by kernel_rfl) ?_;repeat (go_big_quiet_step ((go_at_call 123;exact Calls.later_same (QI.o _ (HB1.o.trans ((Later.h _).mono HB1.o.size))))))
 refine wq_ (fun dq=>?_);have HB2:=bt_ HB1 dq.h;have HR2:=hi_ (HR1.o.below dq.h);clear D0 D4 d0 d4 m0 m1 HB1 HR1;generalize dq.w=w2 at *;clear dq;have hM2:=HMb.o w2 HB2.o;obtain⟨c0,l0',l1'⟩:=hM2.top;have k5:=(hM2.cell HPl.o).2.2.2.2.2.1;obtain⟨ao,cap,hv,hc⟩:=cd_.form (hM2.kidsRow HPl.o);rw[hv]at k5;have hrow:=hM2.kidsRow HPl.o;rw[hv]at hrow;have hfew:=hM2.few;have hln:(nd M.m p).kids.length<=1000000:=by
  have h1:(nd M.m p).kids.length<=(List.range M.nodes.length).length:=List.Nodup.length_le_of_subset (W.nodup p) (fun x hx=>List.mem_range.2 (by rw[<-M.m_len];exact(W.kid p x hx).1));rw[List.length_range]at h1;omega
 have HVP:=hi_ hv;have HEr:Hd ((nd M.m p).kids.erase h=(nd M.m p).kids.take ((nd M.m p).kids.idxOf h)++(nd M.m p).kids.drop ((nd M.m p).kids.idxOf h+1)):=hi_ (by rw[List.erase_eq_eraseIdx_of_idxOf (i:=(nd M.m p).kids.idxOf h) rfl,List.eraseIdx_eq_take_drop_succ]);generalize hl:(nd M.m p).kids=l at *;have HLl:=hi_ hl;generalize hix:l.idxOf h=ix at *;have HIX:=hi_ hix;have QA:=hi_ (fun(i:Int) W' (hb:cd_ M.B W' (.slice ao l.length cap) l)=>mAt (.slice ao l.length cap) l M.B i W' hb);have HRow:=hi_ hrow;have w1':IntKind.i64.wrap ((ix:Int)-1)=(ix:Int)-1:=IntWalk.i64_in _ (by omega);have w2':IntKind.i64.wrap ((ix:Int)+1)=(ix:Int)+1:=IntWalk.i64_in _ (by omega);clear hM2 hv hrow hl hix hmem;go_wp2_with fail
 refine(QA.o _ w2 HRow.o).mono ?_;rintro e w3 ⟨rfl,rfl⟩;go_wp2_with fail
 refine(QA.o _ w2 HRow.o).mono ?_;rintro e w3 ⟨rfl,rfl⟩;rw[kn_ (by omega:ix<=l.length),show(ix:Int)+1=((ix+1:Nat):Int) by push_cast;rfl,ju_];obtain⟨rc,hrc⟩:∃rc,rc=bm_ M.m h p:=⟨_,rfl⟩;have HRc:=hi_ hrc;have HRcc:Hd (aX_ rc=[.int .i64 2,.int .i64 p,.int .i64 h,.int .i64 (ch_ (dq_ l ix)),.int .i64 (ch_ l[ix+1]?),.int .i64 ix,.string ⟨#[]⟩,.string ⟨#[]⟩,.bool false,.int .i64 0,.int .i64 0]):=hi_ (by
  rw[hrc];unfold bm_ aX_;rw[HLl.o,HIX.o]
  rfl)
 clear hrc QA;generalize ch_ (dq_ l ix)=zprev at *;generalize ch_ l[ix+1]?=znext at *;go_upto_region 4 with fail
 have HB3:=hi_ (HB2.o.alloc HB2.o.size (.cells #[.int .i64 2,.int .i64 p,.int .i64 h,.int .i64 zprev,.int .i64 znext,.int .i64 ix,.string ⟨#[]⟩,.string ⟨#[]⟩,.bool false,.int .i64 0,.int .i64 0] 71));have HR3:=hi_ (HR2.o.alloc (.cells #[.int .i64 2,.int .i64 p,.int .i64 h,.int .i64 zprev,.int .i64 znext,.int .i64 ix,.string ⟨#[]⟩,.string ⟨#[]⟩,.bool false,.int .i64 0,.int .i64 0] 71));have HN3:=hi_ (Blk.new w2 #[.int .i64 2,.int .i64 p,.int .i64 h,.int .i64 zprev,.int .i64 znext,.int .i64 ix,.string ⟨#[]⟩,.string ⟨#[]⟩,.bool false,.int .i64 0,.int .i64 0] 71)
 have HRow3:=hi_ (World.ownsRow.alloc HRow.o (.cells #[.int .i64 2,.int .i64 p,.int .i64 h,.int .i64 zprev,.int .i64 znext,.int .i64 ix,.string ⟨#[]⟩,.string ⟨#[]⟩,.bool false,.int .i64 0,.int .i64 0] 71));have hA:w.heap.size<w2.heap.size:=HR2.o.lt;generalize w2.heap.size=A at *;generalize w2.alloc (.cells #[.int .i64 2,.int .i64 p,.int .i64 h,.int .i64 zprev,.int .i64 znext,.int .i64 ix,.string ⟨#[]⟩,.string ⟨#[]⟩,.bool false,.int .i64 0,.int .i64 0] 71)=w4 at *;clear HB2 HR2 HRow c0 l0' l1' k5 hc;have hM4:=HMb.o w4 HB3.o;have HM4:=hi_ hM4;obtain⟨c0,l0',l1'⟩:=hM4.top;obtain⟨g,rfl⟩:∃g,ao=some ⟨g,0,none⟩:=by
  rcases HRow3.o.2 with⟨h1,h2⟩|⟨g,cap',cur,h1,_⟩
  ·omega
  injection h1 with h1 _ _
  exact⟨g,h1⟩
 obtain⟨hrl,_,hcap,hrc4⟩:=ad_ HRow3.o;have HCell:=hi_ (fun j u (hu:(aF_ l)[j]?=some u)=>(show w4.cell? ⟨g,j,none⟩=some u from by
  have hj:j<(aF_ l).length:=by
   rcases Nat.lt_or_ge j (aF_ l).length with h2|h2
   ·exact h2
   rw[List.getElem?_eq_none h2]at hu;cases hu
  rw[(hrc4 j hj).1,hu]))
 have HRl:=hi_ hrl;have HCap:=hi_ hcap;have HLt:=hi_ hlt;have HLn:=hi_ hln;have s1:(ix:Int)<=(cap:Int):=by omega
 have s2:(0:Int)<=(ix:Int):=by omega
 have s3:(0:Int)<=(ix:Int)+1:=by omega
 have s4:(ix:Int)+1<=(l.length:Int):=by omega
 obtain⟨i0,hi0,hz0,hz1,hz2⟩:=info_parts dh_;have HOm:=hi_ (World.ownsRow_made (e:=3) (base:=w4.heap.size) (size:=1) w4 #[] 0 (nl_) (Nat.zero_le _) rfl);have HY1:=hi_ ((Below.refl w4.heap.size w4).alloc (nl_) (.cells #[] 3)).drew;have hmg:¬M.mb=M.g:=fun e=>ai_ hM4.row hM4.blk (by decide) (by rw[e];rfl);clear hrc4 hM4 hrl;have HX1:=hi_ (HB3.o.alloc HB3.o.size (.cells #[] 3));have hx0:w4.drew.cell? ⟨M.mb,0,none⟩=some (.slice (some ⟨M.g,0,none⟩) M.nodes.length M.cap):=(HMb.o _ HB3.o.drew).top.1;have hx1:((w4.alloc (.cells #[] 3)).drew).cell? ⟨M.mb,0,none⟩=some (.slice (some ⟨M.g,0,none⟩) M.nodes.length M.cap):=(HMb.o _ HX1.o.drew).top.1;have HN1:Hd ((aF_ (l.take ix)).length=ix*1):=hi_ (by unfold aF_;rw[List.length_map,List.length_take];omega)
 have HN2:Hd (∀j u,(aF_ (l.take ix))[j]?=some u->((w4.alloc (.cells #[] 3)).drew).cell? ((⟨g,0,none⟩:Addr).add j)=some u):=hi_ (fun j u hu=>by
  rw[dK_,Nat.zero_add];have h1:(aF_ l)[j]?=some u:=by
   unfold aF_ at hu ⊢;rw[List.getElem?_map,List.getElem?_take]at hu;rw[List.getElem?_map]
   split at hu
   ·exact hu
   cases hu
  have h2:=HCell.o j u h1;exact((Below.refl w4.heap.size w4).alloc (nl_) (.cells #[] 3)).drew.cell (p:=⟨g,j,none⟩) HRl.o |>.trans h2)
 have HNl:Hd ((aF_ (l.drop (ix+1))).length=(l.length-(ix+1))*1):=hi_ (by unfold aF_;rw[List.length_map,List.length_drop];omega);have HN4:Hd (∀W':World,(∀j u,(aF_ l)[j]?=some u->W'.cell? ⟨g,j,none⟩=some u)->∀j u,(aF_ (l.drop (ix+1)))[j]?=some u->W'.cell? ((if cap=ix+1 then(⟨g,0,none⟩:Addr) else⟨g,ix+1,none⟩).add j)=some u):=hi_ (fun W' hW j u hu=>by
  unfold aF_ at hu;rw[List.getElem?_map,List.getElem?_drop]at hu;have hlt:ix+1+j<l.length:=by
   rcases Nat.lt_or_ge (ix+1+j) l.length with h2|h2
   ·exact h2
   rw[List.getElem?_eq_none h2]at hu;cases hu
  have hcp:=HCap.o;rw[if_neg (by omega),dK_];refine hW _ _ ?_;unfold aF_;rw[List.getElem?_map];exact hu)
 have HQ5:Hd (0+ix+(l.length-(ix+1))<=maxLen):=hi_ (by unfold maxLen;omega);have HQ6:Hd ((0+ix+(l.length-(ix+1)))*8<=140737488355328):=hi_ (by omega);have hq1:0+ix<=maxLen:=by unfold maxLen;omega
 have hq2:(0+ix)*8<=140737488355328:=by omega
 have hq3:w.heap.size<=((w4.alloc (.cells #[] 3)).drew).heap.size:=by have:=HX1.o.size;exact this
 go_cut [] (fun wx=>∃v W6,wx=World.setCell W6 ⟨M.g,p*7+5,none⟩ v/\Hd (Below w.heap.size w W6)/\Hd (cd_ w.heap.size W6 v (l.take ix++l.drop (ix+1)))/\Hd (Blk A #[.int .i64 2,.int .i64 p,.int .i64 h,.int .i64 zprev,.int .i64 znext,.int .i64 ix,.string ⟨#[]⟩,.string ⟨#[]⟩,.bool false,.int .i64 0,.int .i64 0] 71 W6)/\Hd (Blk w.heap.size #[.int .i64 0,.int .i64 0,.int .i64 0,.int .i64 0,.int .i64 0,.int .i64 0,.string ⟨#[]⟩,.string ⟨#[]⟩,.bool false,.int .i64 0,.int .i64 0] 71 W6))
 case first=>
  clear hq1 hq2 hq3 hfew
  go_region_held3 (fun w'=>w'.cell? ⟨M.mb,0,none⟩=some (.slice (some ⟨M.g,0,none⟩) M.nodes.length M.cap)) (first|with_reducible exact hx0|with_reducible exact hx1|with_reducible exact hy1|with_reducible exact hy2|with_reducible exact hy3)
   (first
    | (refine bO_ (by rfl) _ _ 39 (by rfl) w4.heap.size 3 i0 _ 1 8 Tryz.underlying39 hi0 hz0 hz1 hz2 rfl (by decide) (.slice (some ⟨w4.heap.size, 0, none⟩) 0 0) 0 [] (by rfl) HOm.o.drew ⟨g, 0, none⟩ ix cap (aF_ (l.take ix)) (by rfl) HN1.o HN2.o (bl_ _) (by unfold maxLen; omega) (by omega) HY1.o.size ?_
       intro v1 w5 hown1 hgrow1 hnil1;obtain⟨ao1,cap1,rfl⟩:=aY_ hown1;have HO1:=hi_ hown1;have HG1:=hi_ hgrow1;have HB5:=hi_ (HX1.o.drew.grown hgrow1 (by have:=HX1.o.size;exact this) (fun k hk=>by simp[Value.ownBlock]at hk;have:=HB3.o.size;omega));have HD5:=hi_ (HY1.o.grown hgrow1 HY1.o.size (fun k hk=>by simp[Value.ownBlock]at hk;omega));have hy1:=(HMb.o w5 HB5.o).top.1;have HC5:=hi_ (fun j u (hu:(aF_ l)[j]?=some u)=>(hgrow1.cell (a:=⟨g,j,none⟩) ((((Below.refl w4.heap.size w4).alloc (nl_) (.cells #[] 3)).drew.cell (p:=⟨g,j,none⟩) HRl.o).trans (HCell.o j u hu)) (by have:=HRl.o;simp[Value.ownBlock];omega)));clear hown1 hgrow1 hnil1)
    | (refine bO_ (by rfl) (.tmp 49) (.tmp 53) 39 rfl w4.heap.size 3 i0 _ 1 8 Tryz.underlying39 hi0 hz0 hz1 hz2 rfl (by decide) _ _ _ rfl HO1.o (if cap = ix + 1 then (⟨g, 0, none⟩ : Addr) else ⟨g, ix + 1, none⟩) (l.length - (ix + 1)) (cap - (ix + 1)) (aF_ (l.drop (ix + 1))) (by show Value.slice (if cap = ix + 1 then some (⟨g, 0, none⟩ : Addr) else some ⟨g, ix + 1, none⟩) (l.length - (ix + 1)) (cap - (ix + 1)) = _; split <;> rfl) HNl.o (HN4.o w5 HC5.o) (bl_ _) HQ5.o HQ6.o HD5.o.size ?_
       intro v2 w6 hown2 hgrow2 hnil2;rw[Nat.zero_add]at hown2;obtain⟨ao2,cap2,rfl⟩:=aY_ hown2;have HO2:=hi_ hown2;have HB6:=hi_ (HB5.o.grown hgrow2 HB5.o.size (fun k hk=>Nat.le_trans HB3.o.size (HO1.o.lt k hk).1));have HD6:=hi_ (HD5.o.grown hgrow2 HD5.o.size (fun k hk=>(HO1.o.lt k hk).1));have hy2:=(HMb.o w6 HB6.o).top.1;have f5:=(ab_.cell aV_ (HMb.o w6 HB6.o).row HPl.o (k:=5) (by omega)).2;have k5:=((HMb.o w6 HB6.o).cell HPl.o).2.2.2.2.2.1;have hy3:=(World.cell?_of_block (a:=⟨M.mb,0,none⟩) (Below.heap_setCell w6 ⟨M.g,p*7+5,none⟩ (.slice ao2 (ix+(l.length-(ix+1))) cap2) M.mb hmg)).trans hy2;clear hown2 hgrow2 hnil2))
  rw[show(if cap=ix+1 then some (⟨g,0,none⟩:Addr)else some ⟨g,ix+1,none⟩)=some (if cap=ix+1 then(⟨g,0,none⟩:Addr) else⟨g,ix+1,none⟩) by split<;>rfl];generalize (if cap=ix+1 then(⟨g,0,none⟩:Addr) else⟨g,ix+1,none⟩)=adx;go_wp2_with fail
  go_meet
  refine⟨_,w6,rfl,HB6,hi_ ?_,hi_ (HN3.o.below HD6.o),hi_ (HR3.o.below HD6.o)⟩;have hown:=ca_ HO2.o HB3.o.size;unfold cd_;have e1:(l.take ix++l.drop (ix+1)).length=ix+(l.length-(ix+1)):=by
   have:=HLt.o;rw[List.length_append,List.length_take,List.length_drop];omega
  have e2:aF_ (l.take ix++l.drop (ix+1))=[]++aF_ (l.take ix)++aF_ (l.drop (ix+1)):=by unfold aF_;simp
  rw[e1,e2];exact hown
 obtain⟨v,W6,rfl,HB6,HO6,HN6,HR6⟩:=hcut;have hM6:=HMb.o W6 HB6.o;obtain⟨l',hl'⟩:∃l',l'=l.take ix++l.drop (ix+1):=⟨_,rfl⟩;rw[<-hl']at HO6;have hat:(M.at_ p).n.kids=l:=by rw[<-M.nd_at];exact HLl.o
 have hst:=hM6.store HPl.o (k:=5) (by omega) v (fun x=>{ x with kv:=v,n:={ x.n with kids:=x.n.kids.erase h } }) rfl
  (by
   show cd_ M.B W6 v ((M.at_ p).n.kids.erase h);rw[hat,HEr.o,<-hl'];exact ca_ HO6.o (by have:=HMm.o.bb;omega))
  (show ab_ aj_ M.B 143 2 W6 (M.at_ p).av (M.at_ p).n.attrs from hM6.attrs _ (aJ_.at_mem HPl.o).2)
  (fun j hj hjl g hg hg2=>by
   have h1:=(HO6.o.lt g hg).1;have h2:=((HMm.o.kids _ (aJ_.at_mem hjl).2).lt g hg2).2
   omega)
  (fun j hj hjl g hg=>hM6.aapart p j HPl.o hjl (fun e=>hj e.symm) g hg)
 have HST:=hi_ hst;have L1:=cC_ M p (fun x=>{ x with kv:=v,n:={ x.n with kids:=x.n.kids.erase h } });have HH1:=hi_ (show h<(M.modN p (fun x=>{ x with kv:=v,n:={ x.n with kids:=x.n.kids.erase h } })).nodes.length by rw[L1];exact HHl.o);have hm1:=el_ M p (fun x=>{ x with kv:=v,n:={ x.n with kids:=x.n.kids.erase h } }) (fun x=>{ x with kids:=x.kids.erase h }) (fun x=>rfl);have HMm1:=hi_ hm1;have HL1:=hi_ L1;have HF7:=hi_ (frG (g:=M.g) (H.Frame.of (S:=fun k=>k=M.g) HB6.o) (p*7+5) v);have hnA:A≠M.g:=fun e=>ai_ hM6.row HN6.o (by decide) (by rw[e];rfl);have hnB:w.heap.size≠M.g:=fun e=>ai_ hM6.row HR6.o (by decide) (by rw[e];rfl);have HnA:=hi_ hnA;have HnB:=hi_ hnB;have HN7:=hi_ (HN6.o.far hnA (p*7+5) v);have HR7:=hi_ (HR6.o.far hnB (p*7+5) v)
 obtain⟨M1,hM1⟩:∃M1,M1=M.modN p (fun x=>{ x with kv:=v,n:={ x.n with kids:=x.n.kids.erase h } }):=⟨_,rfl⟩;have HM1e:=hi_ hM1;rw[<-hM1]at HST HH1 HMm1 HL1;have E1:M1.mb=M.mb/\M1.g=M.g/\M1.cap=M.cap/\M1.B=M.B:=by rw[hM1];exact⟨rfl,rfl,rfl,rfl⟩
 have HE1:=hi_ E1;have HV:=hi_ (fun k (hk:v.ownBlock=some k)=>(HO6.o.lt k hk).1);clear hst L1 hm1 hM1 hnA hnB hM6 hat hl' E1;generalize W6.setCell ⟨M.g,p*7+5,none⟩ v=w7 at *;obtain⟨c07,l07,l17⟩:=HST.o.top;have k4:=(HST.o.cell HH1.o).2.2.2.2.1;have f4:=(ab_.cell aV_ HST.o.row HH1.o (k:=4) (by omega)).2;rw[HE1.o.1,HE1.o.2.1,HL1.o,HE1.o.2.2.1]at c07;rw[HE1.o.2.1]at k4 f4;have hst2:=HST.o.storeP HH1.o (k:=4) (by omega) (.int .i64 (-1)) (fun x=>{ x with n:={ x.n with parent:=none } }) rfl ⟨rfl,rfl,rfl,rfl⟩;rw[HE1.o.2.1]at hst2;have HST2:=hi_ hst2;have HF8:=hi_ (frG HF7.o (h*7+4) (.int .i64 (-1)));have HN8:=hi_ (HN7.o.far HnA.o (h*7+4) (.int .i64 (-1)));have HR8:=hi_ (HR7.o.far HnB.o (h*7+4) (.int .i64 (-1)));obtain⟨⟨r0,r1,r2,r3,r4,r5,r6,r7,r8,r9,r10⟩,_⟩:=bq_ HN7.o
 obtain⟨⟨q0,q1,q2,q3,q4,q5,q6,q7,q8,q9,q10⟩,⟨f0,f1,f2,f3,f4',f5,f6,f7,f8,f9,f10⟩⟩:=bq_ HR7.o;have nA1:¬M.g=A:=fun e=>HnA.o e.symm;have nA2:¬M.g=w.heap.size:=fun e=>HnB.o e.symm;clear hst2 c0 l0' l1' s1 s2 s3 s4 hx0 hx1 hq1 hq2 hq3 hlt hcap hln hfew;go_wp2_with fail
 have h9:=Blk.set11 HR8.o (.int .i64 2) (.int .i64 p) (.int .i64 h) (.int .i64 zprev) (.int .i64 znext) (.int .i64 ix) (.string ⟨#[]⟩) (.string ⟨#[]⟩) (.bool false) (.int .i64 0) (.int .i64 0);have hF9:=cz_ HF8.o (g:=w.heap.size) (Or.inr (nl_)) (.int .i64 2) (.int .i64 p) (.int .i64 h) (.int .i64 zprev) (.int .i64 znext) (.int .i64 ix) (.string ⟨#[]⟩) (.string ⟨#[]⟩) (.bool false) (.int .i64 0) (.int .i64 0);have hM9:=HST2.o.beside HR8.o (cz_ (H.Frame.refl (fun k=>k=w.heap.size) _) (Or.inl rfl) (.int .i64 2) (.int .i64 p) (.int .i64 h) (.int .i64 zprev) (.int .i64 znext) (.int .i64 ix) (.string ⟨#[]⟩) (.string ⟨#[]⟩) (.bool false) (.int .i64 0) (.int .i64 0)) (by decide) (by decide) (by decide) (by decide);obtain⟨⟨u0,u1,u2,u3,u4,u5,u6,u7,u8,u9,u10⟩,_⟩:=bq_ h9
 change bodyPost _ _ _ _ _ (set11 (w7.setCell ⟨M.g,h*7+4,none⟩ (.int .i64 (-1))) w.heap.size (.int .i64 2) (.int .i64 p) (.int .i64 h) (.int .i64 zprev) (.int .i64 znext) (.int .i64 ix) (.string ⟨#[]⟩) (.string ⟨#[]⟩) (.bool false) (.int .i64 0) (.int .i64 0));generalize set11 (w7.setCell ⟨M.g,h*7+4,none⟩ (.int .i64 (-1))) w.heap.size (.int .i64 2) (.int .i64 p) (.int .i64 h) (.int .i64 zprev) (.int .i64 znext) (.int .i64 ix) (.string ⟨#[]⟩) (.string ⟨#[]⟩) (.bool false) (.int .i64 0) (.int .i64 0)=W9 at *
 refine bodyPost_ret (v:=.agg #[.int .i64 2,.int .i64 p,.int .i64 h,.int .i64 zprev,.int .i64 znext,.int .i64 ix,.string ⟨#[]⟩,.string ⟨#[]⟩,.bool false,.int .i64 0,.int .i64 0]) (by simp[results,Tryz.results124,go_sem,u0,u1,u2,u3,u4,u5,u6,u7,u8,u9,u10]) rfl ⟨by rw[<-HRc.o,HRcc.o],hF9,M1.modN h (fun x=>{ x with n:={ x.n with parent:=none } }),hM9,?_,HE1.o.1,HE1.o.2.1,HE1.o.2.2.2,by rw[cC_];exact HL1.o,fun k hk=>?_⟩
 ·rw[el_ M1 h _ (fun x=>{ x with parent:=none }) (fun x=>rfl),HMm1.o]
  rfl
 have hfoot1:∀k,M1.foot k->M.foot k\/w.heap.size<=k:=fun k hk=>by
  rw[HM1e.o]at hk
  rcases b5_ HPl.o hk with h1|h1|h1
  ·exact Or.inl h1
  ·exact Or.inr (HV.o k h1)
  exact Or.inl (Or.inr (Or.inr ⟨_,(aJ_.at_mem HPl.o).2,Or.inr h1⟩))
 rcases b5_ HH1.o hk with h1|h1|h1
 ·exact hfoot1 k h1
 ·exact hfoot1 k (Or.inr (Or.inr ⟨_,(aJ_.at_mem HH1.o).2,Or.inl h1⟩))
 exact hfoot1 k (Or.inr (Or.inr ⟨_,(aJ_.at_mem HH1.o).2,Or.inr h1⟩))
end R
end
end Go.Proofs.YtinphfpdfodkkaaGreatDoor
