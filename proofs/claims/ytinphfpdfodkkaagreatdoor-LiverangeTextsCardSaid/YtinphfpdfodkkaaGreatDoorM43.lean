/- Texts of the proof. -/
import Derived.Test.YtinphfpdfodkkaaGreatDoorM34
set_option linter.unusedVariables false
set_option linter.unusedSimpArgs false
set_option maxHeartbeats 8000000
set_option maxRecDepth 100000
namespace Go.Proofs.YtinphfpdfodkkaaGreatDoor
section
open Go.RowKit Go.Sort
namespace A
open H G R
section
variable {w0 w w1 w2 w3:World} {X:Tw} {T':TMem} {M':MMem} {m':Model} {pos':Nat->Nat} {g cap:Nat}
theorem TwIs.both(h:TwIs w0 w X)(hv:X.hv=.slice (some ⟨g,0,none⟩) X.m.length cap)(f1:H.Frame X.T.foot w w1)(g1:Goes w X.T T')(t1:TreeIs w1 T' m' pos')(f2:H.Frame X.M.foot w1 w2) :
  TreeIs w2 T' m' pos'/\¬T'.foot g/\¬T'.foot X.tb/\Blk X.tb #[.pointer (some ⟨X.T.tb,0,none⟩),.pointer (some ⟨X.M.mb,0,none⟩),.slice (some ⟨g,0,none⟩) X.m.length cap] 41 w2/\w2.ownsRow X.B 3 1 (.slice (some ⟨g,0,none⟩) X.m.length cap) X.m.length (intVs (hvs X.T X.pos X.m X.m.length)):=by
 have hk:X.hv.ownBlock=some g:=by rw[hv];rfl
 have hm:=h.mid f1;have hf1:∀k,T'.foot k->X.T.foot k\/w.heap.size<=k:=g1.foot;have hX1:∀k,X.foot k->k<w.heap.size:=fun k hk=>h.foot_lt hk;have hap1:∀k,T'.foot k->¬X.M.foot k:=fun k hk hM=>(hf1 k hk).elim (fun e=>h.apart k e hM) (fun e=>by have:=hX1 k (Or.inr (Or.inr (Or.inl hM)));omega);refine⟨⟨TreeMem.frame t1.mem f2 hap1 (fun r hr g hg hS=>attr_model t1.mem hm.model hS r hr hg),t1.fits⟩,fun e=>?_,fun e=>?_,?_,?_⟩
 ·rcases hf1 g e with e|e
  ·exact(h.hap g hk).1 e
  ·have:=hX1 g (Or.inr (Or.inr (Or.inr hk)));omega
 ·rcases hf1 _ e with e|e
  ·exact h.tb_tree e
  ·have:=hX1 X.tb (Or.inl rfl);omega
 ·rw[<-hv];exact hm.blk.frame f2 h.tb_model
 ·rw[<-hv];exact own_frame hm.row f2 (fun g hg hS=>(h.hap g hg).2 hS)
end
theorem hvs_copy{T T':TMem}{pos pos':Nat->Nat}{m m':Model}{a:Nat}(C:Copied m m' a)(hb:T'.bs=T.bs)(hs:T'.st=T.st)(hp:∀i,i<m.length->pos' i=pos i) :
  m.length+(walk m' m.length).length=m'.length ∧
  intVs (hvs T pos m m.length)++(List.range (walk m' m.length).length).map (fun i=>Value.int .i64 (hd T' pos' ((walk m' m.length).getD i 0)))=intVs (hvs T' pos' m' m'.length):=by
 have hwl:(walk m' m.length).length=m'.length-m.length:=by rw[C.walk,List.length_range']
 have hmore:=C.more;have hsum:m.length+(walk m' m.length).length=m'.length:=by omega
 refine⟨hsum,?_⟩;have hroot:has m' m.length=true:=by unfold G.has;rw[C.root.2.1];rfl
 have e1:hvs T' pos' m' m.length=hvs T pos m m.length:=hvs_app hb hs hp (fun i hi=>by unfold G.has;rw[C.old i hi]);have e2:hvs T' pos' m' m'.length=hvs T' pos' m' m.length++(List.range (m'.length-m.length)).map (fun i=>hv1 T' pos' m' (m.length+i)):=by
  unfold hvs
  conv=>lhs;rw[show m'.length=m.length+(m'.length-m.length) by omega,List.range_add,List.map_append,List.map_map]
  rfl
 rw[e2,e1,hwl];unfold intVs;rw[List.map_append,List.map_map]
 congr 1
 refine List.map_congr_left fun i hi=>?_;have hi:=List.mem_range.1 hi;have hg:(walk m' m.length).getD i 0=m.length+i:=by
  rw[C.walk,List.getD_eq_getElem?_getD,List.getElem?_range' (by omega)];simp
 have hh:has m' (m.length+i)=true:=WF.walk_has C.wf m.length hroot (m.length+i) (by rw[C.walk,List.mem_range'_1];omega);show Value.int .i64 _=Value.int .i64 (hv1 T' pos' m' (m.length+i));rw[hg];unfold hv1;rw[if_pos hh]
end A
end
end Go.Proofs.YtinphfpdfodkkaaGreatDoor
