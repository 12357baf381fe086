/- Texts. -/
import Derived.Test.YtinphfpdfodkkaaGreatDoorS30
set_option linter.unusedVariables false
set_option linter.unusedSimpArgs false
set_option maxHeartbeats 8000000
set_option maxRecDepth 100000
namespace Go.Proofs.YtinphfpdfodkkaaGreatDoor
section
open Go.RowKit Go.Sort
namespace A
open H G R
theorem jK_{lim:Option Nat}{m:aa_}{o:G.Op}(hk:o.kind % 10<3):G.step lim m o=match make m (2+o.kind % 10) o.s o.t o.al with|none=>([],1,m)|some m'=>([],0,m'):=by
 unfold G.step;rw[if_pos hk]
 cases make m (2+o.kind % 10) o.s o.t o.al<;>rfl
def made(kd:Nat)(s t:Bytes)(l:List (Bytes×Bytes)):Option G.Node:=
 if kd=2 then(if dc_ s && aW_ l []then some ⟨2,s,l.map (fun a=>(a.1,U.rep a.2)),[],none,[],false⟩else none)else some ⟨kd,[],[],U.rep t,none,[],false⟩
theorem f3_(m:aa_)(kd:Nat)(s t:Bytes)(l:List (Bytes×Bytes)):make m kd s t l=(made kd s t l).map (fun x=>m++[x]):=by
 unfold make made
 split
 ·split<;>rfl
 rfl
theorem mf_{kd:Nat}{s t:Bytes}{l:List (Bytes×Bytes)}{x:G.Node}(h:made kd s t l=some x):x.gone=false:=by
 unfold made at h
 split at h
 ·split at h
  ·injection h with h;rw[<-h]
  cases h
 injection h with h;rw[<-h]
theorem mI_{m:aa_}{x:G.Node}(i:Nat)(hi:i<m.length):has (m++[x]) i=has m i:=by unfold G.has;rw[bx_ hi]
theorem mz_{T T':am_}{pos pos':Nat->Nat}{m m':aa_}(hb:T'.bs=T.bs)(hs:T'.st=T.st)(hp:∀i,i<m.length->pos' i=pos i)(hh:∀i,i<m.length->has m' i=has m i):hvs T' pos' m' m.length=hvs T pos m m.length:=by
 unfold hvs;refine List.map_congr_left fun i hi=>?_;have hi:=List.mem_range.1 hi;unfold hv1 hd;rw[hh i hi,hb,hs,hp i hi]
theorem oe_(T:am_)(pos:Nat->Nat)(m:aa_)(n:Nat):hvs T pos m (n+1)=hvs T pos m n++[hv1 T pos m n]:=by
 unfold hvs;rw[List.range_succ,List.map_append];rfl
section
variable {w0 w:World} {X:Tw}
theorem bu_.more2(h:bu_ w0 w X){T':am_}{m':aa_}{pos':Nat->Nat}{M':aJ_}{w1 w2 w3:World}{hv':Value}(f1:H.Frame X.T.foot w w1)(g1:Goes w X.T T')(t1:ag_ w1 T' m' pos')(f2:H.Frame X.M.foot w1 w2)(t2:ac_ w2 M')(l2:aO_ w1 X.M M')
  (hs:Sim m' M'.m) (hlen:X.m.length<=m'.length) (hsl:T'.slots.length<=m'.length)
  (hfS:H.Frame (fun k=>X.hv.ownBlock=some k\/k=X.tb) w2 w3) (hblk:Blk X.tb #[.pointer (some ⟨X.T.tb,0,none⟩),.pointer (some ⟨X.M.mb,0,none⟩),hv'] 41 w3)
  (hrow:w3.ownsRow X.B 3 1 hv' m'.length (bB_ (hvs T' pos' m' m'.length))) (hnew:∀k,hv'.ownBlock=some k->X.hv.ownBlock=some k\/w2.heap.size<=k) :
  bu_ w0 w3 { X with T:=T',m:=m',pos:=pos',M:=M',hv:=hv' }:=by
 have hm:=h.mid f1;have hf1:∀k,T'.foot k->X.T.foot k\/w.heap.size<=k:=g1.foot;have hX1:∀k,X.foot k->k<w.heap.size:=fun k hk=>h.foot_lt hk;have hap1:∀k,T'.foot k->¬X.M.foot k:=fun k hk hM=>(hf1 k hk).elim (fun e=>h.apart k e hM) (fun e=>by have:=hX1 k (Or.inr (Or.inr (Or.inl hM)));omega);have ht2:ag_ w2 T' m' pos':=⟨al_.frame t1.mem f2 hap1 (fun r hr g hg hS=>fg_ t1.mem hm.model hS r hr hg),t1.fits⟩;have hs1:=f1.size;have hs2:=f2.size;have hs3:=hfS.size;have htb:¬T'.foot X.tb:=fun e=>(hf1 _ e).elim h.tb_tree (fun e=>by have:=hX1 X.tb (Or.inl rfl);omega);have hmb:¬M'.foot X.tb:=fun e=>(l2.foot _ e).elim h.tb_model (fun e=>by have:=hX1 X.tb (Or.inl rfl);omega)
 have hvT:∀k,X.hv.ownBlock=some k->¬T'.foot k:=fun k hk e=>(hf1 k e).elim (fun e=>(h.hap k hk).1 e) (fun e=>by have:=hX1 k (Or.inr (Or.inr (Or.inr hk)));omega);have hvM:∀k,X.hv.ownBlock=some k->¬M'.foot k:=fun k hk e=>(l2.foot k e).elim (fun e=>(h.hap k hk).2 e) (fun e=>by have:=hX1 k (Or.inr (Or.inr (Or.inr hk)));omega);have hrow2:=ak_ hm.row f2 (fun g hg hS=>(h.hap g hg).2 hS);have hblk2:=hm.blk.frame f2 h.tb_model;have ht3:ag_ w3 T' m' pos':=⟨al_.frame ht2.mem hfS (fun k hk hS=>hS.elim (fun e=>hvT k e hk) (fun e=>htb (by rw[<-e];exact hk))) (fun r hr g hg hS=>hS.elim (fun e=>cI_ ht2.mem hrow2 (by decide) e r hr hg) (fun e=>hH_ ht2.mem hblk2 (by decide) r hr (by rw[<-e];exact hg))),ht2.fits⟩
 have hm3:ac_ w3 M':=t2.frame hfS (fun k hk hS=>hS.elim (fun e=>hvM k e hk) (fun e=>hmb (by rw[<-e];exact hk)));have hnew2:∀k,hv'.ownBlock=some k->¬T'.foot k/\¬M'.foot k:=fun k hk=>⟨fun e=>(hnew k hk).elim (fun h1=>hvT k h1 e) (fun h1=>by have:=bG_ ht2.mem e;omega),fun e=>(hnew k hk).elim (fun h1=>hvM k h1 e) (fun h1=>by have:=R.foot_lt t2 e;omega)⟩;have hw:=h.bel.size;refine⟨ht3,hm3,hs,fun k hk hM=>?_,?_,hrow,hnew2,hsl,?_,fun k hk=>?_,(hm.fr.trans f2 (fun k hk=>h.flow k (Or.inr (Or.inr (Or.inl hk))))).trans hfS (fun k hk=>hk.elim (fun e=>h.flow k (Or.inr (Or.inr (Or.inr e)))) (fun e=>by rw[e];exact h.flow _ (Or.inl rfl))),fun k hk=>?_⟩
 ·rcases l2.foot k hM with e|e
  ·exact hap1 k hk e
  have:=bG_ t1.mem hk;omega
 ·show Blk X.tb #[.pointer (some ⟨T'.tb,0,none⟩),.pointer (some ⟨M'.mb,0,none⟩),hv'] _ w3
  rw[g1.tb,l2.mb];exact hblk
 ·refine(hm.bel.trans (f2.below (B:=w0.heap.size) (fun k hk=>h.low k (Or.inr (Or.inr (Or.inl hk)))) hm.bel.size)).trans (hfS.below (B:=w0.heap.size) (fun k hk=>hk.elim (fun e=>h.low k (Or.inr (Or.inr (Or.inr e)))) (fun e=>by rw[e];exact h.low _ (Or.inl rfl))) (by omega))
 ·rcases hk with e|e|e|e
  ·exact h.low k (Or.inl e)
  ·rcases hf1 k e with e|e
   ·exact h.low k (Or.inr (Or.inl e))
   omega
  ·rcases l2.foot k e with e|e
   ·exact h.low k (Or.inr (Or.inr (Or.inl e)))
   omega
  rcases hnew k e with e|e
  ·exact h.low k (Or.inr (Or.inr (Or.inr e)))
  omega
 show X.D k\/X.wD.heap.size<=k;have hw:=h.fr.size
 rcases hk with e|e|e|e
 ·exact h.flow k (Or.inl e)
 ·rcases hf1 k e with e|e
  ·exact h.flow k (Or.inr (Or.inl e))
  exact Or.inr (by omega)
 ·rcases l2.foot k e with e|e
  ·exact h.flow k (Or.inr (Or.inr (Or.inl e)))
  exact Or.inr (by omega)
 rcases hnew k e with e|e
 ·exact h.flow k (Or.inr (Or.inr (Or.inr e)))
 exact Or.inr (by omega)
theorem bu_.more(h:bu_ w0 w X){T':am_}{m':aa_}{pos':Nat->Nat}{M':aJ_}{w1 w2 w3:World}{hv':Value}(f1:H.Frame X.T.foot w w1)(g1:Goes w X.T T')(t1:ag_ w1 T' m' pos')(f2:H.Frame X.M.foot w1 w2)(t2:ac_ w2 M')(l2:aO_ w1 X.M M')
  (hs:Sim m' M'.m) (hlen:X.m.length<=m'.length) (hhas:∀i,i<X.m.length->has m' i=has X.m i) (hpos:∀i,i<X.m.length->pos' i=X.pos i) (hsl:T'.slots.length<=m'.length)
  (hfS:H.Frame (fun k=>X.hv.ownBlock=some k\/k=X.tb) w2 w3) (hblk:Blk X.tb #[.pointer (some ⟨X.T.tb,0,none⟩),.pointer (some ⟨X.M.mb,0,none⟩),hv'] 41 w3)
  (hrow:w3.ownsRow X.B 3 1 hv' m'.length (bB_ (hvs T' pos' m' m'.length))) (hnew:∀k,hv'.ownBlock=some k->X.hv.ownBlock=some k\/w2.heap.size<=k) :
  bu_ w0 w3 { X with T:=T',m:=m',pos:=pos',M:=M',hv:=hv' }:=h.more2 f1 g1 t1 f2 t2 l2 hs hlen hsl hfS hblk hrow hnew
end
theorem hV_{w:World}{T:am_}{B size n k:Nat}{t:TypeId}{v:Value}{xs:List Value}(h:w.ownsRow B t size v n xs)(hT:al_ w T)(h1:t≠92)(h2:t≠210)(h3:t≠3)(hk:v.ownBlock=some k):¬T.foot k:=by
 rintro(e|e|e)
 ·rw[e]at hk;exact ai_ h hT.blk h1 hk
 ·exact aQ_ h hT.row h2 hk (by rw[e];rfl)
 exact aQ_ h hT.free h3 hk e
theorem sim_app{m m2:aa_}(h:Sim m m2)(x:G.Node):Sim (m++[x]) (m2++[x]):=by
 refine⟨by rw[List.length_append,List.length_append,h.len],fun i=>?_⟩;rw[aK_,aK_,h.len]
 split
 ·rfl
 exact h.same i
theorem hvs_new{T T':am_}{pos pos':Nat->Nat}{m:aa_}{x:G.Node}(hb:T'.bs=T.bs)(hs:T'.st=T.st)(hp:∀i,i<m.length->pos' i=pos i)(hx:x.gone=false) :
  bB_ (hvs T' pos' (m++[x]) (m++[x]).length)=bB_ (hvs T pos m m.length)++[.int .i64 (hd T' pos' m.length)]:=by
 have e1:hvs T' pos' (m++[x]) m.length=hvs T pos m m.length:=mz_ hb hs hp (fun i hi=>mI_ i hi);have e2:hv1 T' pos' (m++[x]) m.length=hd T' pos' m.length:=by
  unfold hv1;rw[if_pos];unfold G.has;rw[h2_,hx];rfl
 have e3:(m++[x]).length=m.length+1:=by simp
 rw[e3,oe_,e1,e2];unfold bB_;rw[List.map_append];rfl
end A
end
end Go.Proofs.YtinphfpdfodkkaaGreatDoor
