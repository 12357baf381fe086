/- Texts of the proof. -/
import Derived.Test.YtinphfpdfodkkaaGreatDoorM34
import Derived.Test.YtinphfpdfodkkaaGreatDoorM25
set_option linter.unusedVariables false
set_option linter.unusedSimpArgs false
set_option maxHeartbeats 8000000
set_option maxRecDepth 100000
namespace Go.Proofs.YtinphfpdfodkkaaGreatDoor
section
open Go.RowKit Go.Sort
namespace A
open H G R
theorem step_9{lim:Option Nat}{m:Model}{o:G.Op}(hk:o.kind % 10=9):G.step lim m o=if has m (o.at_ m)=false then([],6,m) else([],dropN m (o.at_ m)):=by
 unfold G.step;rw[if_neg (by omega),if_neg (by omega)]
 split
 ·rfl
 ·rw[if_neg (by omega),if_neg (by omega),if_neg (by omega),if_neg (by omega),if_neg (by omega)]
theorem dropN_len(m:Model)(a:Nat):(dropN m a).2.length=m.length:=by
 unfold dropN
 split
 ·rfl
 ·show(G.drop m a).length=_
  unfold G.drop;simp
theorem dropN_code{m m2:Model}(h:Sim m m2)(a:Nat):(dropN m a).1=(dropN m2 a).1:=by
 unfold dropN;rw[h.parent,h.kind]
 split<;>rfl
theorem dropN_has{m:Model}(a:Nat){i:Nat}(hi:i<m.length)(h:has (dropN m a).2 i=true):has m i=true:=by
 unfold dropN at h
 split at h
 ·exact h
 ·have h2:has (G.drop m a) i=true:=h
  unfold G.has at h2 ⊢;rw[nd_drop i hi]at h2
  cases hg:(nd m i).gone with
  |false=>rfl
  |true=>rw[hg]at h2;simp at h2
def mixL(f f0:Nat->Int)(n j:Nat):List Int:=(List.range n).map (fun i=>if i<j then f i else f0 i)
theorem mixL_zero(f f0:Nat->Int)(n:Nat):mixL f f0 n 0=(List.range n).map f0:=by
 unfold mixL;refine List.map_congr_left fun i _=>?_;rw[if_neg (by omega)]
theorem mixL_all(f f0:Nat->Int)(n:Nat):mixL f f0 n n=(List.range n).map f:=by
 unfold mixL;refine List.map_congr_left fun i hi=>?_;rw[if_pos (List.mem_range.1 hi)]
theorem mixL_set(f f0:Nat->Int)(n j:Nat)(hj:j<n):mixL f f0 n (j+1)=(mixL f f0 n j).set j (f j):=by
 unfold mixL;refine List.ext_getElem? fun i=>?_;rw[List.getElem?_set];simp only[List.getElem?_map,List.length_map,List.length_range]
 rcases Nat.lt_or_ge i n with hi|hi
 ·rw[List.getElem?_range hi]
  by_cases e:j=i
  ·subst e
   rw[if_pos rfl,if_pos hi];simp
  ·rw[if_neg e]
   simp only[Option.map_some]
   by_cases h2:i<j
   ·rw[if_pos h2,if_pos (by omega)]
   ·rw[if_neg h2,if_neg (by omega)]
 ·rw[List.getElem?_eq_none (by rw[List.length_range];exact hi)]
  by_cases e:j=i
  ·omega
  ·rw[if_neg e]
   rfl
theorem mixL_same(f f0:Nat->Int)(n j:Nat)(hj:f j=f0 j):mixL f f0 n (j+1)=mixL f f0 n j:=by
 unfold mixL;refine List.map_congr_left fun i hi=>?_
 by_cases e:i=j
 ·subst e;rw[if_pos (by omega),if_neg (by omega),hj]
 ·by_cases h2:i<j
  ·rw[if_pos h2,if_pos (by omega)]
  ·rw[if_neg h2,if_neg (by omega)]
theorem intVs_set(l:List Int)(j:Nat)(x:Int):intVs (l.set j x)=(intVs l).set j (.int .i64 x):=by unfold intVs;rw[List.map_set]
section
variable {w0 w w1 w2 w3:World} {X:Tw} {T':TMem} {M':MMem} {m':Model} {g cap:Nat}
theorem TwIs.hv_model(h:TwIs w0 w X)(hv:X.hv=.slice (some ⟨g,0,none⟩) X.m.length cap)(hs:w.heap.size<=w1.heap.size)(l2:MLike w1 X.M M'):¬M'.foot g:=fun e=>by
 have hk:X.hv.ownBlock=some g:=by rw[hv];rfl
 rcases l2.foot g e with e|e
 ·exact(h.hap g hk).2 e
 ·have:=h.foot_lt (k:=g) (Or.inr (Or.inr (Or.inr hk)));omega
theorem TwIs.sweep(h:TwIs w0 w X)(hv:X.hv=.slice (some ⟨g,0,none⟩) X.m.length cap)(f1:H.Frame X.T.foot w w1)(f2:H.Frame X.M.foot w1 w2)(t2:ModelMem w2 M')(l2:MLike w1 X.M M')(fr:H.Frame (fun k=>k=g) w2 w3) :
  ModelMem w3 M'/\Blk X.tb #[.pointer (some ⟨X.T.tb,0,none⟩),.pointer (some ⟨M'.mb,0,none⟩),.slice (some ⟨g,0,none⟩) X.m.length cap] 41 w3:=by
 have hk:X.hv.ownBlock=some g:=by rw[hv];rfl
 have hnm:=h.hv_model (w1:=w1) hv f1.size l2;refine⟨t2.frame fr (fun k hk hS=>hnm (by rw[<-hS];exact hk)),?_⟩;have h1:=((h.mid f1).blk.frame f2 h.tb_model).frame fr (fun e=>h.tb_row (by rw[hk,e]));rw[l2.mb,<-hv];exact h1
theorem TwIs.row0(h:TwIs w0 w X)(f1:H.Frame X.T.foot w w1)(f2:H.Frame X.M.foot w1 w2)(f:Nat->Int):w2.ownsRow X.B 3 1 X.hv X.m.length (intVs (mixL f (hv1 X.T X.pos X.m) X.m.length 0)):=by
 rw[mixL_zero];exact own_frame (h.mid f1).row f2 (fun g hg hS=>(h.hap g hg).2 hS)
theorem TwIs.dropped(h:TwIs w0 w X)(hv:X.hv=.slice (some ⟨g,0,none⟩) X.m.length cap)(f1:H.Frame X.T.foot w w1)(g1:Goes w X.T T')(t1:TreeIs w1 T' m' X.pos)(f2:H.Frame X.M.foot w1 w2)(t2:ModelMem w2 M')(l2:MLike w1 X.M M')
  (hs:Sim m' M'.m) (hlen:m'.length=X.m.length) (hsl:T'.slots.length=X.T.slots.length) (fr:H.Frame (fun k=>k=g) w2 w3)
  (hro:w3.ownsRow X.B 3 1 X.hv X.m.length (intVs (mixL (hv1 T' X.pos m') (hv1 X.T X.pos X.m) X.m.length X.m.length))) :
  TwIs w0 w3 { X with T:=T',m:=m',pos:=X.pos,M:=M',hv:=X.hv }:=by
 have hk:X.hv.ownBlock=some g:=by rw[hv];rfl
 have hb:=(h.sweep hv f1 f2 t2 l2 fr).2;rw[l2.mb,<-hv]at hb;rw[mixL_all]at hro;refine h.more2 f1 g1 t1 f2 t2 l2 hs (Nat.le_of_eq hlen.symm) (by rw[hlen,hsl];exact h.slots) (fr.wide (fun k e=>Or.inl (by rw[hk,e]))) hb ?_ (fun k e=>Or.inl e);rw[hlen];exact hro
end
theorem sweep_row{w:World}{B g cap n j:Nat}{hv:Value}{f f0:Nat->Int}(hv':hv=.slice (some ⟨g,0,none⟩) n cap)(h:w.ownsRow B 3 1 hv n (intVs (mixL f f0 n j)))(hj:j<n)(hf:f j=-1) :
  (w.setCell ⟨g,j,none⟩ (.int .i64 (-1))).ownsRow B 3 1 hv n (intVs (mixL f f0 n (j+1))):=by
 subst hv';rw[mixL_set f f0 n j hj,intVs_set,hf];exact ownsRow_set h j _
theorem sweep_cell{w:World}{B g cap n j:Nat}{hv:Value}{f f0:Nat->Int}(hv':hv=.slice (some ⟨g,0,none⟩) n cap)(h:w.ownsRow B 3 1 hv n (intVs (mixL f f0 n j)))(hj:j<n) :
  (∃u,w.cell? ⟨g,j,none⟩=some u)/\w.frozen? ⟨g,j,none⟩=false:=by
 subst hv';have hl:j<(intVs (mixL f f0 n j)).length:=by rw[intVs_len];unfold mixL;simpa using hj
 have h1:=(ownsRow_open h).2.2.2 j hl;exact⟨⟨_,h1.1.trans (List.getElem?_eq_getElem hl)⟩,h1.2⟩
end A
end
end Go.Proofs.YtinphfpdfodkkaaGreatDoor
