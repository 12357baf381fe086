/- Texts. -/
import Derived.Test.YtinphfpdfodkkaaGreatDoorS34
set_option linter.unusedVariables false
set_option linter.unusedSimpArgs false
set_option maxHeartbeats 8000000
set_option maxRecDepth 100000
namespace Go.Proofs.YtinphfpdfodkkaaGreatDoor
section
open Go.RowKit Go.Sort
namespace A
open H G R
theorem jJ_{lim:Option Nat}{m:aa_}{o:G.Op}(hk:o.kind % 10=9):G.step lim m o=if has m (o.at_ m)=false then([],6,m) else([],cA_ m (o.at_ m)):=by
 unfold G.step;rw[if_neg (by omega),if_neg (by omega)]
 split
 ·rfl
 rw[if_neg (by omega),if_neg (by omega),if_neg (by omega),if_neg (by omega),if_neg (by omega)]
theorem it_(m:aa_)(a:Nat):(cA_ m a).2.length=m.length:=by
 unfold cA_
 split
 ·rfl
 show(G.drop m a).length=_;unfold G.drop;simp
theorem lb_{m m2:aa_}(h:Sim m m2)(a:Nat):(cA_ m a).1=(cA_ m2 a).1:=by
 unfold cA_;rw[h.parent,h.kind]
 split<;>rfl
theorem m3_{m:aa_}(a:Nat){i:Nat}(hi:i<m.length)(h:has (cA_ m a).2 i=true):has m i=true:=by
 unfold cA_ at h
 split at h
 ·exact h
 have h2:has (G.drop m a) i=true:=h;unfold G.has at h2 ⊢;rw[fY_ i hi]at h2
 cases hg:(nd m i).gone with
 |false=>rfl
 |true=>rw[hg]at h2;simp at h2
def gA_(f f0:Nat->Int)(n j:Nat):List Int:=(List.range n).map (fun i=>if i<j then f i else f0 i)
theorem ma_(f f0:Nat->Int)(n:Nat):gA_ f f0 n 0=(List.range n).map f0:=by
 unfold gA_;refine List.map_congr_left fun i _=>?_;rw[if_neg (by omega)]
theorem n1_(f f0:Nat->Int)(n:Nat):gA_ f f0 n n=(List.range n).map f:=by
 unfold gA_;refine List.map_congr_left fun i hi=>?_;rw[if_pos (List.mem_range.1 hi)]
theorem n0_(f f0:Nat->Int)(n j:Nat)(hj:j<n):gA_ f f0 n (j+1)=(gA_ f f0 n j).set j (f j):=by
 unfold gA_;refine List.ext_getElem? fun i=>?_;rw[List.getElem?_set];simp only[List.getElem?_map,List.length_map,List.length_range]
 rcases Nat.lt_or_ge i n with hi|hi
 ·rw[List.getElem?_range hi]
  by_cases e:j=i
  ·subst e
   rw[if_pos rfl,if_pos hi];simp
  rw[if_neg e];simp only[Option.map_some]
  by_cases h2:i<j
  ·rw[if_pos h2,if_pos (by omega)]
  rw[if_neg h2,if_neg (by omega)]
 rw[List.getElem?_eq_none (by rw[List.length_range];exact hi)]
 by_cases e:j=i
 ·omega
 rw[if_neg e];rfl
theorem h7_(f f0:Nat->Int)(n j:Nat)(hj:f j=f0 j):gA_ f f0 n (j+1)=gA_ f f0 n j:=by
 unfold gA_;refine List.map_congr_left fun i hi=>?_
 by_cases e:i=j
 ·subst e;rw[if_pos (by omega),if_neg (by omega),hj]
 by_cases h2:i<j
 ·rw[if_pos h2,if_pos (by omega)]
 rw[if_neg h2,if_neg (by omega)]
theorem mt_(l:List Int)(j:Nat)(x:Int):bB_ (l.set j x)=(bB_ l).set j (.int .i64 x):=by unfold bB_;rw[List.map_set]
section
variable {w0 w w1 w2 w3:World} {X:Tw} {T':am_} {M':aJ_} {m':aa_} {g cap:Nat}
theorem bu_.hv_model(h:bu_ w0 w X)(hv:X.hv=.slice (some ⟨g,0,none⟩) X.m.length cap)(hs:w.heap.size<=w1.heap.size)(l2:aO_ w1 X.M M'):¬M'.foot g:=fun e=>by
 have hk:X.hv.ownBlock=some g:=by rw[hv];rfl
 rcases l2.foot g e with e|e
 ·exact(h.hap g hk).2 e
 have:=h.foot_lt (k:=g) (Or.inr (Or.inr (Or.inr hk)));omega
theorem bu_.sweep(h:bu_ w0 w X)(hv:X.hv=.slice (some ⟨g,0,none⟩) X.m.length cap)(f1:H.Frame X.T.foot w w1)(f2:H.Frame X.M.foot w1 w2)(t2:ac_ w2 M')(l2:aO_ w1 X.M M')(fr:H.Frame (fun k=>k=g) w2 w3) :
  ac_ w3 M'/\Blk X.tb #[.pointer (some ⟨X.T.tb,0,none⟩),.pointer (some ⟨M'.mb,0,none⟩),.slice (some ⟨g,0,none⟩) X.m.length cap] 41 w3:=by
 have hk:X.hv.ownBlock=some g:=by rw[hv];rfl
 have hnm:=h.hv_model (w1:=w1) hv f1.size l2;refine⟨t2.frame fr (fun k hk hS=>hnm (by rw[<-hS];exact hk)),?_⟩;have h1:=((h.mid f1).blk.frame f2 h.tb_model).frame fr (fun e=>h.tb_row (by rw[hk,e]));rw[l2.mb,<-hv];exact h1
theorem bu_.row0(h:bu_ w0 w X)(f1:H.Frame X.T.foot w w1)(f2:H.Frame X.M.foot w1 w2)(f:Nat->Int):w2.ownsRow X.B 3 1 X.hv X.m.length (bB_ (gA_ f (hv1 X.T X.pos X.m) X.m.length 0)):=by
 rw[ma_];exact ak_ (h.mid f1).row f2 (fun g hg hS=>(h.hap g hg).2 hS)
theorem bu_.dropped(h:bu_ w0 w X)(hv:X.hv=.slice (some ⟨g,0,none⟩) X.m.length cap)(f1:H.Frame X.T.foot w w1)(g1:Goes w X.T T')(t1:ag_ w1 T' m' X.pos)(f2:H.Frame X.M.foot w1 w2)(t2:ac_ w2 M')(l2:aO_ w1 X.M M')
  (hs:Sim m' M'.m) (hlen:m'.length=X.m.length) (hsl:T'.slots.length=X.T.slots.length) (fr:H.Frame (fun k=>k=g) w2 w3)
  (hro:w3.ownsRow X.B 3 1 X.hv X.m.length (bB_ (gA_ (hv1 T' X.pos m') (hv1 X.T X.pos X.m) X.m.length X.m.length))) :
  bu_ w0 w3 { X with T:=T',m:=m',pos:=X.pos,M:=M',hv:=X.hv }:=by
 have hk:X.hv.ownBlock=some g:=by rw[hv];rfl
 have hb:=(h.sweep hv f1 f2 t2 l2 fr).2;rw[l2.mb,<-hv]at hb;rw[n1_]at hro;refine h.more2 f1 g1 t1 f2 t2 l2 hs (Nat.le_of_eq hlen.symm) (by rw[hlen,hsl];exact h.slots) (fr.wide (fun k e=>Or.inl (by rw[hk,e]))) hb ?_ (fun k e=>Or.inl e);rw[hlen];exact hro
end
theorem hR_{w:World}{B g cap n j:Nat}{hv:Value}{f f0:Nat->Int}(hv':hv=.slice (some ⟨g,0,none⟩) n cap)(h:w.ownsRow B 3 1 hv n (bB_ (gA_ f f0 n j)))(hj:j<n)(hf:f j=-1) :
  (w.setCell ⟨g,j,none⟩ (.int .i64 (-1))).ownsRow B 3 1 hv n (bB_ (gA_ f f0 n (j+1))):=by
 subst hv';rw[n0_ f f0 n j hj,mt_,hf];exact eo_ h j _
theorem gP_{w:World}{B g cap n j:Nat}{hv:Value}{f f0:Nat->Int}(hv':hv=.slice (some ⟨g,0,none⟩) n cap)(h:w.ownsRow B 3 1 hv n (bB_ (gA_ f f0 n j)))(hj:j<n) :
  (∃u,w.cell? ⟨g,j,none⟩=some u)/\w.frozen? ⟨g,j,none⟩=false:=by
 subst hv';have hl:j<(bB_ (gA_ f f0 n j)).length:=by rw[eO_];unfold gA_;simpa using hj
 have h1:=(ad_ h).2.2.2 j hl;exact⟨⟨_,h1.1.trans (List.getElem?_eq_getElem hl)⟩,h1.2⟩
end A
end
end Go.Proofs.YtinphfpdfodkkaaGreatDoor
