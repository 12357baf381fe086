/- Texts. -/
import Derived.Test.YtinphfpdfodkkaaGreatDoorS05
import Derived.Test.YtinphfpdfodkkaaGreatDoorS02
import Derived.Deep.DeepCutAuto
import Derived.Deep.RegionWith
import Derived.Deep.RegionHeld3
set_option linter.unusedVariables false
set_option linter.unusedSimpArgs false
set_option maxHeartbeats 8000000
set_option maxRecDepth 100000
namespace Go.Proofs.YtinphfpdfodkkaaGreatDoor
section
open Go.RowKit Go.Sort
namespace A
open H G
section
variable {w w0:World} {g:Nat} {t:TypeId} {cs:Array Value}
def set11(w:World)(g:Nat)(b0 b1 b2 b3 b4 b5 b6 b7 b8 b9 b10:Value):World:=(((((((((((w.setCell ⟨g,0,none⟩ b0).setCell ⟨g,1,none⟩ b1).setCell ⟨g,2,none⟩ b2).setCell ⟨g,3,none⟩ b3).setCell ⟨g,4,none⟩ b4).setCell ⟨g,5,none⟩ b5).setCell ⟨g,6,none⟩ b6).setCell ⟨g,7,none⟩ b7).setCell ⟨g,8,none⟩ b8).setCell ⟨g,9,none⟩ b9).setCell ⟨g,10,none⟩ b10)
theorem Blk.set11{a0 a1 a2 a3 a4 a5 a6 a7 a8 a9 a10:Value}(h:Blk g #[a0,a1,a2,a3,a4,a5,a6,a7,a8,a9,a10] t w)(b0 b1 b2 b3 b4 b5 b6 b7 b8 b9 b10:Value):Blk g #[b0,b1,b2,b3,b4,b5,b6,b7,b8,b9,b10] t (A.set11 w g b0 b1 b2 b3 b4 b5 b6 b7 b8 b9 b10):=by
 have h9:=(((((((((((h.set 0 b0).set 1 b1).set 2 b2).set 3 b3).set 4 b4).set 5 b5).set 6 b6).set 7 b7).set 8 b8).set 9 b9).set 10 b10);simp only[List.setIfInBounds_toArray,List.set_cons_zero,List.set_cons_succ]at h9;exact h9
theorem ev_{B:Nat}(h:Below B w0 w)(hg:B<=g)(b0 b1 b2 b3 b4 b5 b6 b7 b8 b9 b10:Value):Below B w0 (set11 w g b0 b1 b2 b3 b4 b5 b6 b7 b8 b9 b10):=(a0_ (a0_ (a0_ (a0_ (a0_ (a0_ (a0_ (a0_ (a0_ (a0_ (a0_ h hg) hg) hg) hg) hg) hg) hg) hg) hg) hg) hg)
theorem cz_{S:Nat->Prop}(h:H.Frame S w0 w)(hg:S g\/w0.heap.size<=g)(b0 b1 b2 b3 b4 b5 b6 b7 b8 b9 b10:Value):H.Frame S w0 (set11 w g b0 b1 b2 b3 b4 b5 b6 b7 b8 b9 b10):=(Frame.set (Frame.set (Frame.set (Frame.set (Frame.set (Frame.set (Frame.set (Frame.set (Frame.set (Frame.set (Frame.set h hg 0 b0) hg 1 b1) hg 2 b2) hg 3 b3) hg 4 b4) hg 5 b5) hg 6 b6) hg 7 b7) hg 8 b8) hg 9 b9) hg 10 b10)
theorem Blk.far11{k:Nat}(h:Blk g cs t w)(hne:g≠k)(b0 b1 b2 b3 b4 b5 b6 b7 b8 b9 b10:Value):Blk g cs t (A.set11 w k b0 b1 b2 b3 b4 b5 b6 b7 b8 b9 b10):=(Blk.far (Blk.far (Blk.far (Blk.far (Blk.far (Blk.far (Blk.far (Blk.far (Blk.far (Blk.far (Blk.far h hne 0 b0) hne 1 b1) hne 2 b2) hne 3 b3) hne 4 b4) hne 5 b5) hne 6 b6) hne 7 b7) hne 8 b8) hne 9 b9) hne 10 b10)
theorem bq_{a0 a1 a2 a3 a4 a5 a6 a7 a8 a9 a10:Value}(h:Blk g #[a0,a1,a2,a3,a4,a5,a6,a7,a8,a9,a10] t w):(w.cell? ⟨g,0,none⟩=some a0/\w.cell? ⟨g,1,none⟩=some a1/\w.cell? ⟨g,2,none⟩=some a2/\w.cell? ⟨g,3,none⟩=some a3/\w.cell? ⟨g,4,none⟩=some a4/\w.cell? ⟨g,5,none⟩=some a5/\w.cell? ⟨g,6,none⟩=some a6/\w.cell? ⟨g,7,none⟩=some a7/\w.cell? ⟨g,8,none⟩=some a8/\w.cell? ⟨g,9,none⟩=some a9/\w.cell? ⟨g,10,none⟩=some a10)/\(w.frozen? ⟨g,0,none⟩=false/\w.frozen? ⟨g,1,none⟩=false/\w.frozen? ⟨g,2,none⟩=false/\w.frozen? ⟨g,3,none⟩=false/\w.frozen? ⟨g,4,none⟩=false/\w.frozen? ⟨g,5,none⟩=false/\w.frozen? ⟨g,6,none⟩=false/\w.frozen? ⟨g,7,none⟩=false/\w.frozen? ⟨g,8,none⟩=false/\w.frozen? ⟨g,9,none⟩=false/\w.frozen? ⟨g,10,none⟩=false):=by
 obtain⟨hc,hf⟩:=ae_ h;exact⟨⟨hc 0,hc 1,hc 2,hc 3,hc 4,hc 5,hc 6,hc 7,hc 8,hc 9,hc 10⟩,⟨hf 0 (by show 0<11;omega),hf 1 (by show 1<11;omega),hf 2 (by show 2<11;omega),hf 3 (by show 3<11;omega),hf 4 (by show 4<11;omega),hf 5 (by show 5<11;omega),hf 6 (by show 6<11;omega),hf 7 (by show 7<11;omega),hf 8 (by show 8<11;omega),hf 9 (by show 9<11;omega),hf 10 (by show 10<11;omega)⟩⟩
end
theorem al_.store{w:World}{T:am_}(h:al_ w T){s k:Nat}(hs:s<T.slots.length)(hk:k<10)(u:Value)(f:ez_->ez_)(hf:a8_ (f (T.sl s))=(a8_ (T.sl s)).set k u)(ha:∀r,(f r).attrs=r.attrs/\(f r).al=r.al) :
  al_ (w.setCell ⟨T.g,s*10+k,none⟩ u) (T.modS s f):=by
 have hg1:T.tb≠T.g:=fun e=>ai_ h.row h.blk (by decide) (by rw[e];rfl);have hgf:T.freeV.ownBlock≠some T.g:=fun e=>aQ_ h.free h.row (by decide) e rfl;have hga:∀r,r∈T.slots->r.attrs.ownBlock≠some T.g:=fun r hr e=>aQ_ (h.attrs r hr) h.row (by decide) e rfl;have hlen:(T.modS s f).slots.length=T.slots.length:=c9_ T s f;refine⟨?_,?_,by rw[hlen];exact h.few,h.bb,au_ h.free hgf _ _,?_⟩
 ·have h1:=h.blk.far hg1 (s*10+k) u
  unfold gO_ at h1 ⊢;rw[hlen];exact h1
 ·exact ab_.store bv_ h.row hs hk u f (by rw[<-hm_ hs];exact hf)
 intro r hr;unfold am_.modS at hr;obtain⟨i,hi⟩:=List.mem_iff_getElem?.1 hr;rw[List.getElem?_modify]at hi
 cases h2:T.slots[i]? with
 |none=>rw[h2]at hi;split at hi<;>cases hi
 |some r0=>
  have hm:=List.mem_of_getElem? h2;rw[h2]at hi;have h3:=au_ (h.attrs r0 hm) (hga r0 hm) (s*10+k) u
  split at hi
  ·have e:f r0=r:=by simpa using hi
   rw[<-e,(ha r0).1,(ha r0).2];exact h3
  have e:r0=r:=by simpa using hi
  rw[<-e];exact h3
theorem lL_{T:am_}{s:Nat}{f:ez_->ez_}(hf:∀r,(f r).used=r.used)(i:Nat):((T.modS s f).sl i).used=(T.sl i).used:=by
 show((T.slots.modify s f).getD i aT_).used=(T.slots.getD i aT_).used;rw[List.getD_eq_getElem?_getD,List.getD_eq_getElem?_getD,List.getElem?_modify]
 cases T.slots[i]? with
 |none=>split<;>rfl
 |some r=>
  split
  ·exact hf r
  rfl
theorem at_modS{T:am_}{s:Nat}{f:ez_->ez_}(hf:∀r,(f r).used=r.used)(z:Int):(T.modS s f).at_ z=T.at_ z:=by
 unfold am_.at_;show(match dI_ T.bs T.st z with|some i=>_|none=>none)=_
 cases dI_ T.bs T.st z with
 |none=>rfl
 |some i=>
  dsimp only;have hl:=c9_ T s f
  by_cases hi:i<T.slots.length
  ·have hi':i<(T.modS s f).slots.length:=by rw[hl];exact hi
   rw[dif_pos hi',dif_pos hi];have:((T.modS s f).slots[i]).used=(T.slots[i]).used:=by rw[<-hm_ hi',<-hm_ hi];exact lL_ hf i
   rw[this]
  rw[dif_neg (by rw[hl];exact hi),dif_neg hi]
theorem nU_{T:am_}{s:Nat}{f:ez_->ez_}(hf:∀r,(f r).used=r.used)(o:Nat)(z:Int):(T.modS s f).ptr o z=T.ptr o z:=by
 unfold am_.ptr;rw[at_modS hf];rfl
theorem al_.cell{w:World}{T:am_}(h:al_ w T){s k:Nat}(hs:s<T.slots.length)(hk:k<10):w.cell? ⟨T.g,s*10+k,none⟩=(a8_ (T.sl s))[k]?/\w.frozen? ⟨T.g,s*10+k,none⟩=false:=by
 rw[hm_ hs];exact ab_.cell bv_ h.row hs hk
def av_(T:am_)(pos:Nat->Nat)(r:Rec):List Value:=[.int .i64 r.kind,.int .i64 (hd T pos r.target),.int .i64 (hdO T pos r.node),.int .i64 (hdO T pos r.prev),.int .i64 (hdO T pos r.next),.int .i64 r.index,.string ⟨r.name.toArray⟩,.string ⟨r.old.toArray⟩,.bool r.had,.int .i64 r.count,.int .i64 r.size]
theorem d0_(T:am_)(pos:Nat->Nat)(r:Rec):(av_ T pos r).length=11:=rfl
end A
end
section
open Go.RowKit Go.Sort
namespace A
open H G
theorem dl_{T:am_}{m:aa_}{pos:Nat->Nat}(F:Fits T m pos){h p:Nat}(hh:has m h=true)(hp:(nd m h).parent=some p) :
  (∀a,ah_ m h=some a->has m a=true/\a≠h/\a≠p/\aq_ m h≠some a)/\(∀b,aq_ m h=some b->has m b=true/\b≠h/\b≠p)/\h≠p/\has m p=true:=by
 have W:=F.wf;have hph:=j6_ W hh hp;have hm:=(W.par h p hp).2;have hlt:=List.idxOf_lt_length_of_mem hm;have hnd:=W.nodup p;have hpr:ah_ m h=ah_.prevAt2 (nd m p).kids ((nd m p).kids.idxOf h):=by unfold ah_;rw[hp]
 have hnx:aq_ m h=(nd m p).kids[(nd m p).kids.idxOf h+1]?:=by unfold aq_;rw[hp]
 have hat:=dB_ hm;have hne:=W.ne_parent hp;have kne:∀x,x∈(nd m p).kids->x≠p:=fun x hx e=>by
  have:=(W.kid p x hx).2;rw[e]at this;exact W.ne_parent this rfl
 have inj:∀{i j x:Nat},(nd m p).kids[i]?=some x->(nd m p).kids[j]?=some x->i=j:=fun {i j x} h1 h2=>by
  have hi:i<(nd m p).kids.length:=by
   rcases Nat.lt_or_ge i (nd m p).kids.length with h3|h3
   ·exact h3
   rw[List.getElem?_eq_none h3]at h1;cases h1
  exact(List.getElem?_inj hi hnd).1 (h1.trans h2.symm)
 refine⟨fun a ha=>?_,fun b hb=>?_,hne,hph⟩
 ·rw[hpr]at ha
  unfold ah_.prevAt2 at ha
  split at ha
  ·cases ha
  rename_i h0
  have hma:=List.mem_of_getElem? ha;refine⟨by_ F hph hma,fun e=>?_,kne a hma,fun e=>?_⟩
  ·rw[e]at ha
   have:=inj ha hat;omega
  rw[hnx]at e;have:=inj ha e;omega
 rw[hnx]at hb;have hmb:=List.mem_of_getElem? hb;refine⟨by_ F hph hmb,fun e=>?_,kne b hmb⟩;rw[e]at hb;have:=inj hb hat;omega
def un1(T:am_)(m:aa_)(pos:Nat->Nat)(h p:Nat):am_:=match ah_ m h with
 |none=>T.modS (pos p) fun r=>{ r with first:=hdO T pos (aq_ m h) }
 |some a=>T.modS (pos a) fun r=>{ r with next:=hdO T pos (aq_ m h) }
def un2(T T1:am_)(m:aa_)(pos:Nat->Nat)(h p:Nat):am_:=match aq_ m h with
 |none=>T1.modS (pos p) fun r=>{ r with last:=hdO T pos (ah_ m h) }
 |some b=>T1.modS (pos b) fun r=>{ r with prev:=hdO T pos (ah_ m h) }
def un3(T:am_)(s:Nat):am_:=((T.modS s fun r=>{ r with parent:=0 }).modS s fun r=>{ r with prev:=0 }).modS s fun r=>{ r with next:=0 }
structure bb_(T T':am_):Prop where
 tb:T'.tb=T.tb
 g:T'.g=T.g
 bs:T'.bs=T.bs
 st:T'.st=T.st
 len:T'.slots.length=T.slots.length
 frees:T'.frees=T.frees
 live:T'.live=T.live
 root:T'.root=T.root
 B:T'.B=T.B
 freeV:T'.freeV=T.freeV
 used:∀s,(T'.sl s).used=(T.sl s).used
 ptr:∀o z,T'.ptr o z=T.ptr o z
theorem bb_.refl(T:am_):bb_ T T:=⟨rfl,rfl,rfl,rfl,rfl,rfl,rfl,rfl,rfl,rfl,fun _=>rfl,fun _ _=>rfl⟩
theorem bb_.trans{T T1 T2:am_}(h:bb_ T T1)(k:bb_ T1 T2):bb_ T T2:=
 ⟨k.tb.trans h.tb,k.g.trans h.g,k.bs.trans h.bs,k.st.trans h.st,k.len.trans h.len,k.frees.trans h.frees,k.live.trans h.live,k.root.trans h.root,k.B.trans h.B,k.freeV.trans h.freeV,fun s=>(k.used s).trans (h.used s),fun o z=>(k.ptr o z).trans (h.ptr o z)⟩
theorem bb_.modS(T:am_)(s:Nat){f:ez_->ez_}(hf:∀r,(f r).used=r.used):bb_ T (T.modS s f):=
 ⟨rfl,rfl,rfl,rfl,c9_ T s f,rfl,rfl,rfl,rfl,rfl,fun i=>lL_ hf i,fun o z=>nU_ hf o z⟩
theorem bb_.un1(T:am_)(m:aa_)(pos:Nat->Nat)(h p:Nat):bb_ T (un1 T m pos h p):=by
 unfold A.un1
 cases ah_ m h with
 |none=>exact bb_.modS _ _ (fun r=>rfl)
 |some a=>exact bb_.modS _ _ (fun r=>rfl)
theorem bb_.un2(T T1:am_)(m:aa_)(pos:Nat->Nat)(h p:Nat):bb_ T1 (un2 T T1 m pos h p):=by
 unfold A.un2
 cases aq_ m h with
 |none=>exact bb_.modS _ _ (fun r=>rfl)
 |some a=>exact bb_.modS _ _ (fun r=>rfl)
theorem bb_.un3(T:am_)(s:Nat):bb_ T (un3 T s):=((bb_.modS T s (f:=fun r=>{ r with parent:=0 }) (fun r=>rfl)).trans (bb_.modS _ s (f:=fun r=>{ r with prev:=0 }) (fun r=>rfl))).trans (bb_.modS _ s (f:=fun r=>{ r with next:=0 }) (fun r=>rfl))
section
variable {T:am_} {m:aa_} {pos:Nat->Nat}
theorem pos_ne(F:Fits T m pos){i j:Nat}(hi:has m i=true)(hj:has m j=true)(h:i≠j):pos i≠pos j:=fun e=>h (F.inj i j hi hj e)
theorem Fits.inS(F:Fits T m pos){T1:am_}(L:bb_ T T1){i:Nat}(hi:has m i=true):pos i<T1.slots.length:=by rw[L.len];exact F.lt i hi
theorem bP_(F:Fits T m pos){T1:am_}(L:bb_ T T1){i j:Nat}(hi:has m i=true)(hj:has m j=true)(f:ez_->ez_):(T1.modS (pos j) f).sl (pos i)=if i=j then f (T1.sl (pos i))else T1.sl (pos i):=by
 rw[sl_modS (F.inS L hj)]
 by_cases e:i=j
 ·rw[if_pos (by rw[e]),if_pos e]
 rw[if_neg (pos_ne F hi hj e),if_neg e]
theorem oP_(F:Fits T m pos){h p:Nat}(hh:has m h=true)(hp:(nd m h).parent=some p){i:Nat}(hi:has m i=true) :
  (un1 T m pos h p).sl (pos i)={ T.sl (pos i)with first:=if i=p/\ah_ m h=none then hdO T pos (aq_ m h) else(T.sl (pos i)).first,next:=if ah_ m h=some i then hdO T pos (aq_ m h) else(T.sl (pos i)).next }:=by
 obtain⟨h1,h2,h3,h4⟩:=dl_ F hh hp;unfold un1
 cases hps:ah_ m h with
 |none=>
  dsimp only;rw[bP_ F (bb_.refl T) hi h4]
  by_cases e:i=p<;>simp[e]
 |some a=>
  dsimp only;rw[bP_ F (bb_.refl T) hi (h1 a hps).1]
  by_cases e:i=a
  ·simp[e]
  have e':¬a=i:=fun h=>e h.symm;simp[e,e']
theorem oO_(F:Fits T m pos){h p:Nat}(hh:has m h=true)(hp:(nd m h).parent=some p){T1:am_}(L:bb_ T T1){i:Nat}(hi:has m i=true) :
  (un2 T T1 m pos h p).sl (pos i)={ T1.sl (pos i)with last:=if i=p/\aq_ m h=none then hdO T pos (ah_ m h) else(T1.sl (pos i)).last,prev:=if aq_ m h=some i then hdO T pos (ah_ m h) else(T1.sl (pos i)).prev }:=by
 obtain⟨h1,h2,h3,h4⟩:=dl_ F hh hp;unfold un2
 cases hps:aq_ m h with
 |none=>
  dsimp only;rw[bP_ F L hi h4]
  by_cases e:i=p<;>simp[e]
 |some a=>
  dsimp only;rw[bP_ F L hi (h2 a hps).1]
  by_cases e:i=a
  ·simp[e]
  have e':¬a=i:=fun h=>e h.symm;simp[e,e']
theorem un3_sl(F:Fits T m pos){h:Nat}(hh:has m h=true){T1:am_}(L:bb_ T T1){i:Nat}(hi:has m i=true) :
  (un3 T1 (pos h)).sl (pos i)=if i=h then { T1.sl (pos i)with parent:=0,prev:=0,next:=0 } else T1.sl (pos i):=by
 unfold un3;have L1:=L.trans (bb_.modS T1 (pos h) (f:=fun r=>{ r with parent:=0 }) (fun r=>rfl));have L2:=L1.trans (bb_.modS _ (pos h) (f:=fun r=>{ r with prev:=0 }) (fun r=>rfl));rw[bP_ F L2 hi hh,bP_ F L1 hi hh,bP_ F L hi hh]
 by_cases e:i=h<;>simp[e]
theorem hj_(F:Fits T m pos){h p:Nat}(hh:has m h=true)(hp:(nd m h).parent=some p) :
  nx_ T (un3 (un2 T (un1 T m pos h p) m pos h p) (pos h)) m pos h p:=by
 obtain⟨h1,h2,h3,h4⟩:=dl_ F hh hp;have L1:=bb_.un1 T m pos h p;have L2:=L1.trans (bb_.un2 T (un1 T m pos h p) m pos h p);have L:=L2.trans (bb_.un3 (un2 T (un1 T m pos h p) m pos h p) (pos h));have hsl:∀i,has m i=true->(un3 (un2 T (un1 T m pos h p) m pos h p) (pos h)).sl (pos i)=if i=h then { (un2 T (un1 T m pos h p) m pos h p).sl (pos i)with parent:=0,prev:=0,next:=0 } else(un2 T (un1 T m pos h p) m pos h p).sl (pos i):=fun i hi=>un3_sl F hh L2 hi
 have hs2:=fun i (hi:has m i=true)=>oO_ F hh hp L1 hi;have hs1:=fun i (hi:has m i=true)=>oP_ F hh hp hi;refine⟨L.bs,L.st,L.len,L.frees,L.live,L.root,L.used,fun i hi=>?_,fun i hi=>?_,fun i hi=>?_,fun i hi=>?_,fun i hi=>?_,fun i hi=>?_⟩
 ·rw[hsl i hi,hs2 i hi,hs1 i hi];split<;>simp
 ·rw[hsl i hi,hs2 i hi,hs1 i hi];split<;>simp_all
 ·rw[hsl i hi,hs2 i hi,hs1 i hi];split<;>simp_all
 ·rw[hsl i hi,hs2 i hi,hs1 i hi];split<;>simp_all
 ·rw[hsl i hi,hs2 i hi,hs1 i hi];split<;>simp_all
 rw[hsl i hi,hs2 i hi,hs1 i hi];split<;>simp_all
end
end A
end
section
open Go.RowKit Go.Sort
namespace A
open H G
theorem lX_{w2 w3:World}(b:Below ((w2.alloc (.cells #[.int .i64 0,.int .i64 0,.int .i64 0,.int .i64 0,.int .i64 0,.int .i64 0,.string ⟨#[]⟩,.string ⟨#[]⟩,.bool false,.int .i64 0,.int .i64 0] 73)).drew).heap.size ((w2.alloc (.cells #[.int .i64 0,.int .i64 0,.int .i64 0,.int .i64 0,.int .i64 0,.int .i64 0,.string ⟨#[]⟩,.string ⟨#[]⟩,.bool false,.int .i64 0,.int .i64 0] 73)).drew) w3):Blk w2.heap.size #[.int .i64 0,.int .i64 0,.int .i64 0,.int .i64 0,.int .i64 0,.int .i64 0,.string ⟨#[]⟩,.string ⟨#[]⟩,.bool false,.int .i64 0,.int .i64 0] 73 w3:=by
 have h:Blk w2.heap.size #[.int .i64 0,.int .i64 0,.int .i64 0,.int .i64 0,.int .i64 0,.int .i64 0,.string ⟨#[]⟩,.string ⟨#[]⟩,.bool false,.int .i64 0,.int .i64 0] 73 (w2.alloc (.cells #[.int .i64 0,.int .i64 0,.int .i64 0,.int .i64 0,.int .i64 0,.int .i64 0,.string ⟨#[]⟩,.string ⟨#[]⟩,.bool false,.int .i64 0,.int .i64 0] 73)).drew:=Blk.new w2 #[.int .i64 0,.int .i64 0,.int .i64 0,.int .i64 0,.int .i64 0,.int .i64 0,.string ⟨#[]⟩,.string ⟨#[]⟩,.bool false,.int .i64 0,.int .i64 0] 73;exact h.below b
theorem al_.beside{w w':World}{T:am_}(h:al_ w T){b:Nat}{cs:Array Value}{t:TypeId}(hb:Blk b cs t w)(f:H.Frame (fun k=>k=b) w w')(h1:92≠t)(h2:210≠t)(h3:3≠t)(h4:142≠t):al_ w' T:=
 ⟨h.blk.frame f (fun e=>h1 (by have e:T.tb=b:=e;have h5:=h.blk;rw[e]at h5;exact cD_ h5 hb)),ak_ h.row f (fun g hg e=>ai_ h.row hb h2 (by rw[hg];exact congrArg some e)),h.few,h.bb,ak_ h.free f (fun g hg e=>ai_ h.free hb h3 (by rw[hg];exact congrArg some e)),fun r hr=>ak_ (h.attrs r hr) f (fun g hg e=>ai_ (h.attrs r hr) hb h4 (by rw[hg];exact congrArg some e))⟩
theorem al_.links{w:World}{T:am_}(h:al_ w T){s:Nat}(hs:s<T.slots.length) :
  w.cell? ⟨T.g,s*10+1,none⟩=some (.int .i64 ((T.sl s).kind:Nat))/\w.cell? ⟨T.g,s*10+5,none⟩=some (.int .i64 (T.sl s).parent)/\w.cell? ⟨T.g,s*10+6,none⟩=some (.int .i64 (T.sl s).first)/\w.cell? ⟨T.g,s*10+7,none⟩=some (.int .i64 (T.sl s).last)/\w.cell? ⟨T.g,s*10+8,none⟩=some (.int .i64 (T.sl s).prev)/\w.cell? ⟨T.g,s*10+9,none⟩=some (.int .i64 (T.sl s).next):=
 ⟨(h.cell hs (k:=1) (by omega)).1,(h.cell hs (k:=5) (by omega)).1,(h.cell hs (k:=6) (by omega)).1,(h.cell hs (k:=7) (by omega)).1,(h.cell hs (k:=8) (by omega)).1,(h.cell hs (k:=9) (by omega)).1⟩
theorem frG{g:Nat}{w w':World}(h:H.Frame (fun k=>k=g) w w')(o:Nat)(v:Value):H.Frame (fun k=>k=g) w (w'.setCell ⟨g,o,none⟩ v):=h.set (Or.inl rfl) o v
theorem nE_{T:am_}{m:aa_}{pos:Nat->Nat}(F:Fits T m pos){h p:Nat}(hh:has m h=true)(hp:(nd m h).parent=some p):(un1 T m pos h p).sl (pos h)=T.sl (pos h):=by
 obtain⟨h1,h2,h3,h4⟩:=dl_ F hh hp;rw[oP_ F hh hp hh];have e1:¬(h=p/\ah_ m h=none):=fun e=>h3 e.1;have e2:¬ah_ m h=some h:=fun e=>(h1 h e).2.1 rfl;rw[if_neg e1,if_neg e2]
theorem nD_{T:am_}{m:aa_}{pos:Nat->Nat}(F:Fits T m pos){h p:Nat}(hh:has m h=true)(hp:(nd m h).parent=some p){T1:am_}(L:bb_ T T1):(un2 T T1 m pos h p).sl (pos h)=T1.sl (pos h):=by
 obtain⟨h1,h2,h3,h4⟩:=dl_ F hh hp;rw[oO_ F hh hp L hh];have e1:¬(h=p/\aq_ m h=none):=fun e=>h3 e.1;have e2:¬aq_ m h=some h:=fun e=>(h2 h e).2.1 rfl;rw[if_neg e1,if_neg e2]
theorem al_.free_{w:World}{T:am_}(h:al_ w T){s:Nat}(hs:s<T.slots.length){k:Nat}(hk:k<10):w.frozen? ⟨T.g,s*10+k,none⟩=false:=(h.cell hs hk).2
theorem lA_(T:am_)(m:aa_)(pos:Nat->Nat)(h p:Nat)(w:World)(hT:ag_ w T m pos)(hh:has m h=true)(hp:(nd m h).parent=some p) :
  Calls Tryz.prog 117 #[.pointer (some ⟨T.tb,0,none⟩),.int .i64 (hd T pos h)] w fun e w'=>∃T',e=.returned (.agg (av_ T pos (bm_ m h p)).toArray)/\H.Frame (fun k=>k=T.g) w w'/\bb_ T T'/\ag_ w' T' (cut m h p) pos:=by
 have hF:=hT.fits;have hfew:=hT.mem.few;obtain⟨hps,hns,hne,hph⟩:=dl_ hF hh hp;have HT:=hi_ hT;have HPs:=hi_ hps;have HNs:=hi_ hns;have HC:=hi_ (hj_ hF hh hp);have HFin:=hi_ (fun T' (C:nx_ T T' m pos h p)=>hF.cut hh hp C);have QA:=hi_ (fun(y:Nat) (hy:has m y=true) (T1:am_) (L:bb_ T T1) W (hW:al_ W T1)=>(by
  have h1:=at_ T1 (hd T pos y) W hW (by have:=aP_ (T:=T) (pos:=pos) y;omega) (by have:=bF_ hfew hF hy;omega);rw[L.ptr,bM_ hfew hF hy 1,L.tb]at h1;exact h1:Calls Tryz.prog 83 #[.pointer (some ⟨T.tb,0,none⟩),.int .i64 (hd T pos y)] W fun e w'=>e=.returned (.pointer (some ⟨T.g,pos y*10+1,none⟩))/\Below W.heap.size W w'))
 have QI:=hi_ (fun W (hb:Below w.heap.size w W)=>d6_ T m pos h p W (hT.below hb) hh hp);have L1:=hi_ (bb_.un1 T m pos h p);have S0:=hi_ (hF.lt h hh);have S1:=hi_ (hF.lt p hph);have e5:(T.sl (pos h)).parent=hd T pos p:=by rw[hF.parent h hh,hp];rfl
 have e8:(T.sl (pos h)).prev=hdO T pos (ah_ m h):=hF.prev h hh;have e9:(T.sl (pos h)).next=hdO T pos (aq_ m h):=hF.next h hh;have E5:=hi_ e5;have E8:=hi_ e8;have E9:=hi_ e9;have hB1:=(Below.refl w.heap.size w).alloc (nl_) (.cells #[.int .i64 0,.int .i64 0,.int .i64 0,.int .i64 0,.int .i64 0,.int .i64 0,.string ⟨#[]⟩,.string ⟨#[]⟩,.bool false,.int .i64 0,.int .i64 0] 73);have HB1:=hi_ hB1;have HR1:=hi_ (Blk.new w #[.int .i64 0,.int .i64 0,.int .i64 0,.int .i64 0,.int .i64 0,.int .i64 0,.string ⟨#[]⟩,.string ⟨#[]⟩,.bool false,.int .i64 0,.int .i64 0] 73);have Q1:=hi_ (QA.o h hh T (bb_.refl T) _ (hT.below hB1).mem);have HH:=hi_ hh;have HPh:=hi_ hph;have HNe:=hi_ hne;have HPp:=hi_ hp;clear hT hp hps hns hne e5 e8 e9 hB1
 go_enter Tryz.func117,Tryz.ntmps117
 go_wp2_with fail
 refine Q1.o.mono ?_;rintro e w2 ⟨rfl,hb2⟩;have HB2:=bt_ HB1 hb2;have HR2:=hi_ (HR1.o.below hb2);clear hb2 Q1 HB1 HR1;have hT2:=HT.o.below HB2.o;obtain⟨c1,c5,c6,c7,c8,c9⟩:=hT2.mem.links S0.out;rw[E5.out]at c5;rw[E8.out]at c8;rw[E9.out]at c9;clear c1 c6 c7 hT2;go_upto_region 2 with fail
 generalize hix:(nd m p).kids.idxOf h=ix at QI;have HIX:=hi_ hix;clear hix
 go_cut [6] (fun s6 wx=>∃A,s6=.pointer (some ⟨A,0,none⟩)/\w.heap.size<A/\Hd (Blk A #[.int .i64 2,.int .i64 (hd T pos p),.int .i64 (hd T pos h),.int .i64 (hdO T pos (ah_ m h)),.int .i64 (hdO T pos (aq_ m h)),.int .i64 ix,.string ⟨#[]⟩,.string ⟨#[]⟩,.bool false,.int .i64 0,.int .i64 0] 73 wx)/\Hd (Below w.heap.size w wx)/\Hd (Blk w.heap.size #[.int .i64 0,.int .i64 0,.int .i64 0,.int .i64 0,.int .i64 0,.int .i64 0,.string ⟨#[]⟩,.string ⟨#[]⟩,.bool false,.int .i64 0,.int .i64 0] 73 wx))
 case first=>
  have HZ2:=hi_ HB2.o.size;have HSS:Hd (∀w',Below w.heap.size w w'->Below w.heap.size w w'/\w'.cell? ⟨T.g,pos h*10+5,none⟩=some (.int .i64 (hd T pos p))/\w'.cell? ⟨T.g,pos h*10+8,none⟩=some (.int .i64 (hdO T pos (ah_ m h)))/\w'.cell? ⟨T.g,pos h*10+9,none⟩=some (.int .i64 (hdO T pos (aq_ m h)))):=hi_ (fun w' hB=>by
   obtain⟨d1,d5,d6,d7,d8,d9⟩:=(HT.o.below hB).mem.links S0.out;rw[E5.out]at d5;rw[E8.out]at d8;rw[E9.out]at d9;exact⟨hB,d5,d8,d9⟩)
  have QJ:Hd (∀W,(Below w.heap.size w W/\W.cell? ⟨T.g,pos h*10+5,none⟩=some (.int .i64 (hd T pos p))/\W.cell? ⟨T.g,pos h*10+8,none⟩=some (.int .i64 (hdO T pos (ah_ m h)))/\W.cell? ⟨T.g,pos h*10+9,none⟩=some (.int .i64 (hdO T pos (aq_ m h))))->Calls Tryz.prog 87 #[.pointer (some ⟨T.tb,0,none⟩),.int .i64 (hd T pos h)] W fun e w'=>e=.returned (.int .i64 ix)/\Below W.heap.size W w'/\Below w.heap.size w w'/\w'.cell? ⟨T.g,pos h*10+5,none⟩=some (.int .i64 (hd T pos p))/\w'.cell? ⟨T.g,pos h*10+8,none⟩=some (.int .i64 (hdO T pos (ah_ m h)))/\w'.cell? ⟨T.g,pos h*10+9,none⟩=some (.int .i64 (hdO T pos (aq_ m h)))):=hi_ (fun W hW=>(QI.o W hW.1).mono (fun e w' he=>⟨he.1,he.2,HSS.o w' (hW.1.trans (he.2.mono hW.1.size))⟩));have HBd:=hi_ HB2.o.drew
  have HBx:=hi_ (show Below w.heap.size w (w2.alloc (.cells #[.int .i64 0,.int .i64 0,.int .i64 0,.int .i64 0,.int .i64 0,.int .i64 0,.string ⟨#[]⟩,.string ⟨#[]⟩,.bool false,.int .i64 0,.int .i64 0] 73)).drew from (HB2.o.alloc HB2.o.size _).drew);clear QI c5 c8 c9
  go_region_held3 (fun w'=>Below w.heap.size w w'/\w'.cell? ⟨T.g,pos h*10+5,none⟩=some (.int .i64 (hd T pos p))/\w'.cell? ⟨T.g,pos h*10+8,none⟩=some (.int .i64 (hdO T pos (ah_ m h)))/\w'.cell? ⟨T.g,pos h*10+9,none⟩=some (.int .i64 (hdO T pos (aq_ m h)))) (first|with_reducible assumption|with_reducible exact HSS.o _ (HS3.o.alloc HS3.o.size _)|with_reducible exact HSS.o _ (a0_ (a0_ (a0_ (a0_ (a0_ (a0_ (a0_ (a0_ (a0_ (a0_ (a0_ HS3.o HZ2.o) HZ2.o) HZ2.o) HZ2.o) HZ2.o) HZ2.o) HZ2.o) HZ2.o) HZ2.o) HZ2.o) HZ2.o)|with_reducible exact HSS.o _ HBd.o|with_reducible exact HSS.o _ HBx.o)
   (first|(go_at_call 87;refine(QJ.o _ (by with_reducible assumption)).mono ?_;rintro e w3 ⟨rfl,b3,hS3⟩;have HS3:=hi_ hS3.1;have HR3:=hi_ (fun(hx:Blk w.heap.size #[.int .i64 0,.int .i64 0,.int .i64 0,.int .i64 0,.int .i64 0,.int .i64 0,.string ⟨#[]⟩,.string ⟨#[]⟩,.bool false,.int .i64 0,.int .i64 0] 73 _)=>hx.below b3);(try (have hz:=lX_ b3;obtain⟨⟨k0,k1,k2,k3,k4,k5,k6,k7,k8,k9,k10⟩,⟨f0,f1,f2,f3,f4,f5,f6,f7,f8,f9,f10⟩⟩:=bq_ hz;have HZ:=hi_ hz;clear hz));clear b3))
  ·have hr3:Blk w.heap.size #[.int .i64 0,.int .i64 0,.int .i64 0,.int .i64 0,.int .i64 0,.int .i64 0,.string ⟨#[]⟩,.string ⟨#[]⟩,.bool false,.int .i64 0,.int .i64 0] 73 w3:=HR3.o HR2.o
   have hlt:=hr3.lt;go_wp2_with fail
   go_meet
   exact⟨_,rfl,hlt,hi_ (Blk.new w3 _ _),hi_ (HS3.o.alloc HS3.o.size _),hi_ (hr3.alloc _)⟩
  have hr3:Blk w.heap.size #[.int .i64 0,.int .i64 0,.int .i64 0,.int .i64 0,.int .i64 0,.int .i64 0,.string ⟨#[]⟩,.string ⟨#[]⟩,.bool false,.int .i64 0,.int .i64 0] 73 w3:=HR3.o (HR2.o.alloc _);have hlt:=HR2.o.lt;go_wp2_with fail
  go_meet
  exact⟨_,rfl,hlt,hi_ (Blk.set11 HZ.o _ _ _ _ _ _ _ _ _ _ _),hi_ (ev_ HS3.o HZ2.o _ _ _ _ _ _ _ _ _ _ _),hi_ (Blk.far11 hr3 (Nat.ne_of_lt hlt) _ _ _ _ _ _ _ _ _ _ _)⟩
 obtain⟨A,rfl,hA,HRA,HB3,HR3⟩:=hcut;clear HB2 HR2;have hT3:=HT.o.below HB3.o;obtain⟨_,c5,_,_,_,_⟩:=hT3.mem.links S0.out;rw[E5.out]at c5;have Q2:=hi_ (QA.o p HPh.o T (bb_.refl T) _ hT3.mem);clear hT3;go_wp2_with fail
 refine Q2.o.mono ?_;rintro e w4 ⟨rfl,hb4⟩;have HB4:=bt_ HB3 hb4;have HRA4:=hi_ (HRA.o.below hb4);have HR4:=hi_ (HR3.o.below hb4);clear hb4 Q2 HB3 HRA HR3 c5;have hT4:=HT.o.below HB4.o;obtain⟨_,c5,_,_,c8,c9⟩:=hT4.mem.links S0.out;rw[E8.out]at c8;rw[E9.out]at c9;have HT4:=hi_ hT4.mem;clear c5 hT4
 go_upto_if 38 with fail
 go_cut [] (fun wx=>Hd (al_ wx (un1 T m pos h p))/\Hd (H.Frame (fun k=>k=T.g) w wx)/\Hd (Blk A #[.int .i64 2,.int .i64 (hd T pos p),.int .i64 (hd T pos h),.int .i64 (hdO T pos (ah_ m h)),.int .i64 (hdO T pos (aq_ m h)),.int .i64 ix,.string ⟨#[]⟩,.string ⟨#[]⟩,.bool false,.int .i64 0,.int .i64 0] 73 wx)/\Hd (Blk w.heap.size #[.int .i64 0,.int .i64 0,.int .i64 0,.int .i64 0,.int .i64 0,.int .i64 0,.string ⟨#[]⟩,.string ⟨#[]⟩,.bool false,.int .i64 0,.int .i64 0] 73 wx))
 case first=>
  cases hps:ah_ m h with
  |none=>
   rw[hps]at c8;have k8:w4.cell? ⟨T.g,pos h*10+8,none⟩=some (.int .i64 0):=c8;have k6:=(HT4.o.cell S1.out (k:=6) (by omega)).1;have f6:=HT4.o.free_ S1.out (k:=6) (by omega);have k6':w4.cell? ⟨T.g,pos p*10+6,none⟩=some (.int .i64 (T.sl (pos p)).first):=k6;have hst:=HT4.o.store S1.out (k:=6) (by omega) (.int .i64 (hdO T pos (aq_ m h))) (fun r=>{ r with first:=hdO T pos (aq_ m h) }) rfl (fun r=>⟨rfl,rfl⟩);have hun:un1 T m pos h p=T.modS (pos p) fun r=>{ r with first:=hdO T pos (aq_ m h) }:=by unfold un1;rw[hps]
   have HST:=hi_ hst;have HUN:=hi_ hun;have hg1:A≠T.g:=fun e=>ai_ HT4.o.row HRA4.o (by decide) (by rw[e];rfl);have hg2:w.heap.size≠T.g:=fun e=>ai_ HT4.o.row HR4.o (by decide) (by rw[e];rfl);have HG1:=hi_ hg1;have HG2:=hi_ hg2;clear c8 k6 hst hun hg1 hg2 hps;go_wp2_with fail
   go_meet
   refine⟨hi_ ?_,hi_ (frG (H.Frame.of HB4.o) _ _),hi_ (HRA4.o.far HG1.o _ _),hi_ (HR4.o.far HG2.o _ _)⟩;rw[HUN.o];exact HST.o
  |some a=>
   obtain⟨ha1,ha2,ha3,ha4⟩:=HPs.o a hps;rw[hps]at c8;have k8:w4.cell? ⟨T.g,pos h*10+8,none⟩=some (.int .i64 (hd T pos a)):=c8;have hne1:¬hd T pos a=0:=by have:=aP_ (T:=T) (pos:=pos) a;omega
   have hne0:(hd T pos a==0)=false:=bn_ hne1;have hne2:(hdO T pos (some a) != 0)=true:=bne_iff_ne.2 hne1;have hne3:¬hdO T pos (some a)=0:=hne1;have hne4:(hdO T pos (some a)==0)=false:=hne0;have S2:=hi_ (hF.lt a ha1);have hlg4:=(ad_ HT4.o.row).1;have D8:=lc_ k8 hlg4;have D9:=lc_ c9 hlg4;have QAa:=hi_ (fun(d:Later w4.heap.size w4)=>QA.o a ha1 T (bb_.refl T) d.w (HT4.o.below d.h));have HUN:Hd (un1 T m pos h p=T.modS (pos a) fun r=>{ r with next:=hdO T pos (aq_ m h) }):=hi_ (by unfold un1;rw[hps]);clear c8 ha1 ha2 ha3 ha4 hps;go_wp2_with fail
   refine aS_ 10 (by kernel_rfl) (by kernel_rfl) ?_;simp only[List.take_succ_cons,List.take_zero,List.drop_succ_cons,List.drop_zero];repeat (go_big_quiet_step ((go_at_call 83;exact Calls.later (QAa.o _))))
   refine wq_ (fun dq=>?_);have hT5:=HT4.o.below dq.h;have k9:dq.w.cell? ⟨T.g,pos a*10+9,none⟩=some (.int .i64 (T.sl (pos a)).next):=(hT5.cell S2.out (k:=9) (by omega)).1;have f9:=hT5.free_ S2.out (k:=9) (by omega);have HST:=hi_ (hT5.store S2.out (k:=9) (by omega) (.int .i64 (hdO T pos (aq_ m h))) (fun r=>{ r with next:=hdO T pos (aq_ m h) }) rfl (fun r=>⟨rfl,rfl⟩));have HG1:=hi_ (fun e=>ai_ HT4.o.row HRA4.o (by decide) (by rw[e];rfl):A≠T.g);have HG2:=hi_ (fun e=>ai_ HT4.o.row HR4.o (by decide) (by rw[e];rfl):w.heap.size≠T.g);have HB5:=bt_ HB4 dq.h;have HRA5:=hi_ (HRA4.o.below dq.h);have HR5:=hi_ (HR4.o.below dq.h);clear D8 D9 k8 c9 hlg4 hT5;go_wp2_with fail
   go_meet
   refine⟨hi_ ?_,hi_ (frG (H.Frame.of HB5.o) _ _),hi_ (HRA5.o.far HG1.o _ _),hi_ (HR5.o.far HG2.o _ _)⟩;rw[HUN.o];exact HST.o
 obtain⟨HM1,HF1,HRA1,HR1⟩:=hcut;clear HB4 HRA4 HR4 HT4 c8 c9;have HS1:=hi_ (nE_ hF HH.o HPp.o);have HUn2:=hi_ (fun(T1:am_) (L:bb_ T T1)=>nD_ hF HH.o HPp.o L);obtain⟨T1,hT1⟩:∃T1,T1=un1 T m pos h p:=⟨_,rfl⟩;rw[<-hT1]at HM1 HC L1 HS1;have S01:=hi_ (show pos h<T1.slots.length by rw[L1.out.len];exact S0.out);have S11:=hi_ (show pos p<T1.slots.length by rw[L1.out.len];exact S1.out);obtain⟨_,_,_,_,c8,c9⟩:=HM1.o.links S01.out;rw[HS1.o,L1.out.g]at c8 c9;rw[E8.out]at c8;rw[E9.out]at c9;clear hT1
 go_upto_if 62 with fail
 go_cut [] (fun wx=>Hd (al_ wx (un2 T T1 m pos h p))/\Hd (H.Frame (fun k=>k=T.g) w wx)/\Hd (Blk A #[.int .i64 2,.int .i64 (hd T pos p),.int .i64 (hd T pos h),.int .i64 (hdO T pos (ah_ m h)),.int .i64 (hdO T pos (aq_ m h)),.int .i64 ix,.string ⟨#[]⟩,.string ⟨#[]⟩,.bool false,.int .i64 0,.int .i64 0] 73 wx)/\Hd (Blk w.heap.size #[.int .i64 0,.int .i64 0,.int .i64 0,.int .i64 0,.int .i64 0,.int .i64 0,.string ⟨#[]⟩,.string ⟨#[]⟩,.bool false,.int .i64 0,.int .i64 0] 73 wx))
 case first=>
  have HG1:=hi_ (fun e=>ai_ HM1.o.row HRA1.o (by decide) (by rw[e,<-L1.out.g];rfl):A≠T.g);have HG2:=hi_ (fun e=>ai_ HM1.o.row HR1.o (by decide) (by rw[e,<-L1.out.g];rfl):w.heap.size≠T.g)
  cases hns:aq_ m h with
  |none=>
   rw[hns]at c9;have k9:=c9;have k9':_=some (Value.int .i64 0):=c9;have k7:=(HM1.o.cell S11.out (k:=7) (by omega)).1;have f7:=HM1.o.free_ S11.out (k:=7) (by omega);rw[L1.out.g]at k7 f7;have HST:=hi_ (HM1.o.store S11.out (k:=7) (by omega) (.int .i64 (hdO T pos (ah_ m h))) (fun r=>{ r with last:=hdO T pos (ah_ m h) }) rfl (fun r=>⟨rfl,rfl⟩));rw[L1.out.g]at HST;have HUN:Hd (un2 T T1 m pos h p=T1.modS (pos p) fun r=>{ r with last:=hdO T pos (ah_ m h) }):=hi_ (by unfold un2;rw[hns]);have k7':_=some (Value.int .i64 (T1.sl (pos p)).last):=k7;have z1:(hdO T pos none != 0)=false:=rfl;have z2:(hdO T pos none==0)=true:=rfl;have z3:hdO T pos none=0:=rfl;clear c9 k7 hns;go_wp2_with fail
   go_meet
   refine⟨hi_ ?_,hi_ (frG HF1.o _ _),hi_ (HRA1.o.far HG1.o _ _),hi_ (HR1.o.far HG2.o _ _)⟩;rw[HUN.o];exact HST.o
  |some b=>
   obtain⟨hb1,hb2,hb3⟩:=HNs.o b hns;rw[hns]at c9;have hne1:¬hd T pos b=0:=by have:=aP_ (T:=T) (pos:=pos) b;omega
   have hne0:(hd T pos b==0)=false:=bn_ hne1;have hne2:(hdO T pos (some b) != 0)=true:=bne_iff_ne.2 hne1;have hne3:¬hdO T pos (some b)=0:=hne1;have hne4:(hdO T pos (some b)==0)=false:=hne0;have S2:=hi_ (show pos b<T1.slots.length by rw[L1.out.len];exact hF.lt b hb1);have hlg1:=(ad_ HM1.o.row).1;rw[L1.out.g]at hlg1;have D8:=lc_ c8 hlg1;have D9:=lc_ c9 hlg1;have QAb:=hi_ (fun(d:Later wc.heap.size wc)=>QA.o b hb1 T1 L1.out d.w (HM1.o.below d.h));have HUN:Hd (un2 T T1 m pos h p=T1.modS (pos b) fun r=>{ r with prev:=hdO T pos (ah_ m h) }):=hi_ (by unfold un2;rw[hns]);clear hb1 hb2 hb3 hns;go_wp2_with fail
   refine aS_ 10 (by kernel_rfl) (by kernel_rfl) ?_;simp only[List.take_succ_cons,List.take_zero,List.drop_succ_cons,List.drop_zero];repeat (go_big_quiet_step ((go_at_call 83;exact Calls.later (QAb.o _))))
   refine wq_ (fun dq=>?_);have hT5:=HM1.o.below dq.h;have k8:=(hT5.cell S2.out (k:=8) (by omega)).1;have f8:=hT5.free_ S2.out (k:=8) (by omega);rw[L1.out.g]at k8 f8;have k8':_=some (Value.int .i64 (T1.sl (pos b)).prev):=k8;have HST:=hi_ (hT5.store S2.out (k:=8) (by omega) (.int .i64 (hdO T pos (ah_ m h))) (fun r=>{ r with prev:=hdO T pos (ah_ m h) }) rfl (fun r=>⟨rfl,rfl⟩));rw[L1.out.g]at HST;have HB5:=hi_ (HF1.o.below_ dq.h);have HRA5:=hi_ (HRA1.o.below dq.h);have HR5:=hi_ (HR1.o.below dq.h);clear D8 D9 c8 c9 hlg1 hT5 k8;go_wp2_with fail
   go_meet
   refine⟨hi_ ?_,hi_ (frG HB5.o _ _),hi_ (HRA5.o.far HG1.o _ _),hi_ (HR5.o.far HG2.o _ _)⟩;rw[HUN.o];exact HST.o
 obtain⟨HM2,HF2,HRA2,HR2⟩:=hcut;clear HF1 HRA1 HR1 HM1 c8 c9;have L2:=hi_ (L1.out.trans (bb_.un2 T T1 m pos h p));obtain⟨T2,hT2⟩:∃T2,T2=un2 T T1 m pos h p:=⟨_,rfl⟩;rw[<-hT2]at HM2 HC L2;have S02:=hi_ (show pos h<T2.slots.length by rw[L2.out.len];exact S0.out);have hl1:=c9_ T2 (pos h) (fun r=>{ r with parent:=0 });have hl2:=c9_ (T2.modS (pos h) (fun r=>{ r with parent:=0 })) (pos h) (fun r=>{ r with prev:=0 });have HST1:=hi_ (HM2.o.store S02.out (k:=5) (by omega) (.int .i64 0) (fun r=>{ r with parent:=0 }) rfl (fun r=>⟨rfl,rfl⟩));have HST2:=hi_ (HST1.o.store (s:=pos h) (by rw[hl1];exact S02.out) (k:=8) (by omega) (.int .i64 0) (fun r=>{ r with prev:=0 }) rfl (fun r=>⟨rfl,rfl⟩))
 have HST3:=hi_ (HST2.o.store (s:=pos h) (by rw[hl2,hl1];exact S02.out) (k:=9) (by omega) (.int .i64 0) (fun r=>{ r with next:=0 }) rfl (fun r=>⟨rfl,rfl⟩));have m5:=(HM2.o.cell S02.out (k:=5) (by omega)).1;have m8:=(HM2.o.cell S02.out (k:=8) (by omega)).1;have m9:=(HM2.o.cell S02.out (k:=9) (by omega)).1;have g5:=HM2.o.free_ S02.out (k:=5) (by omega);have g8:=HM2.o.free_ S02.out (k:=8) (by omega);have g9:=HM2.o.free_ S02.out (k:=9) (by omega);have m5':_=some (Value.int .i64 (T2.sl (pos h)).parent):=m5;have m8':_=some (Value.int .i64 (T2.sl (pos h)).prev):=m8;have m9':_=some (Value.int .i64 (T2.sl (pos h)).next):=m9;have hG1:A≠T.g:=fun e=>ai_ HM2.o.row HRA2.o (by decide) (by rw[e,<-L2.out.g];rfl);have hG2:w.heap.size≠T.g:=fun e=>ai_ HM2.o.row HR2.o (by decide) (by rw[e,<-L2.out.g];rfl)
 have eg:T2.g=T.g:=L2.out.g;have eg2:(T2.modS (pos h) (fun r=>{ r with parent:=0 })).g=T.g:=L2.out.g;have eg3:((T2.modS (pos h) (fun r=>{ r with parent:=0 })).modS (pos h) (fun r=>{ r with prev:=0 })).g=T.g:=L2.out.g;rw[eg3]at HST3;rw[eg2]at HST3;rw[eg]at m5' m8' m9' g5 g8 g9 HST3;clear m5 m8 m9 HST1 HST2 hl1 hl2 eg eg2 eg3 hT2;have HRA3:=hi_ (((HRA2.o.far hG1 (pos h*10+5) (.int .i64 0)).far hG1 (pos h*10+8) (.int .i64 0)).far hG1 (pos h*10+9) (.int .i64 0));have HR3:=hi_ (((HR2.o.far hG2 (pos h*10+5) (.int .i64 0)).far hG2 (pos h*10+8) (.int .i64 0)).far hG2 (pos h*10+9) (.int .i64 0));have HF3:=hi_ (frG (frG (frG HF2.o (pos h*10+5) (.int .i64 0)) (pos h*10+8) (.int .i64 0)) (pos h*10+9) (.int .i64 0));obtain⟨⟨r0,r1,r2,r3,r4,r5,r6,r7,r8,r9,r10⟩,_⟩:=bq_ HRA2.o
 obtain⟨⟨k0,k1,k2,k3,k4,k5,k6,k7,k8,k9,k10⟩,⟨f0,f1,f2,f3,f4,f5,f6,f7,f8,f9,f10⟩⟩:=bq_ HR2.o;have nA1:¬T.g=A:=fun e=>hG1 e.symm;have nA2:¬T.g=w.heap.size:=fun e=>hG2 e.symm;go_wp2_with fail
 have h9:=Blk.set11 HR3.o (.int .i64 2) (.int .i64 (hd T pos p)) (.int .i64 (hd T pos h)) (.int .i64 (hdO T pos (ah_ m h))) (.int .i64 (hdO T pos (aq_ m h))) (.int .i64 ix) (.string ⟨#[]⟩) (.string ⟨#[]⟩) (.bool false) (.int .i64 0) (.int .i64 0);have hF9:=cz_ HF3.o (g:=w.heap.size) (Or.inr (nl_)) (.int .i64 2) (.int .i64 (hd T pos p)) (.int .i64 (hd T pos h)) (.int .i64 (hdO T pos (ah_ m h))) (.int .i64 (hdO T pos (aq_ m h))) (.int .i64 ix) (.string ⟨#[]⟩) (.string ⟨#[]⟩) (.bool false) (.int .i64 0) (.int .i64 0)
 have hM9:=HST3.o.beside HR3.o (cz_ (H.Frame.refl (fun k=>k=w.heap.size) _) (Or.inl rfl) (.int .i64 2) (.int .i64 (hd T pos p)) (.int .i64 (hd T pos h)) (.int .i64 (hdO T pos (ah_ m h))) (.int .i64 (hdO T pos (aq_ m h))) (.int .i64 ix) (.string ⟨#[]⟩) (.string ⟨#[]⟩) (.bool false) (.int .i64 0) (.int .i64 0)) (by decide) (by decide) (by decide) (by decide);obtain⟨⟨l0,l1,l2,l3,l4,l5,l6,l7,l8,l9,l10⟩,_⟩:=bq_ h9;change bodyPost _ _ _ _ _ (set11 (((wc.setCell ⟨T.g,pos h*10+5,none⟩ (.int .i64 0)).setCell ⟨T.g,pos h*10+8,none⟩ (.int .i64 0)).setCell ⟨T.g,pos h*10+9,none⟩ (.int .i64 0)) w.heap.size (.int .i64 2) (.int .i64 (hd T pos p)) (.int .i64 (hd T pos h)) (.int .i64 (hdO T pos (ah_ m h))) (.int .i64 (hdO T pos (aq_ m h))) (.int .i64 ix) (.string ⟨#[]⟩) (.string ⟨#[]⟩) (.bool false) (.int .i64 0) (.int .i64 0))
 generalize set11 (((wc.setCell ⟨T.g,pos h*10+5,none⟩ (.int .i64 0)).setCell ⟨T.g,pos h*10+8,none⟩ (.int .i64 0)).setCell ⟨T.g,pos h*10+9,none⟩ (.int .i64 0)) w.heap.size (.int .i64 2) (.int .i64 (hd T pos p)) (.int .i64 (hd T pos h)) (.int .i64 (hdO T pos (ah_ m h))) (.int .i64 (hdO T pos (aq_ m h))) (.int .i64 ix) (.string ⟨#[]⟩) (.string ⟨#[]⟩) (.bool false) (.int .i64 0) (.int .i64 0)=W9 at *;refine bodyPost_ret (v:=.agg #[.int .i64 2,.int .i64 (hd T pos p),.int .i64 (hd T pos h),.int .i64 (hdO T pos (ah_ m h)),.int .i64 (hdO T pos (aq_ m h)),.int .i64 ix,.string ⟨#[]⟩,.string ⟨#[]⟩,.bool false,.int .i64 0,.int .i64 0]) (by simp[results,Tryz.results117,go_sem,l0,l1,l2,l3,l4,l5,l6,l7,l8,l9,l10]) rfl ⟨un3 T2 (pos h),?_,hF9,L2.out.trans (bb_.un3 T2 (pos h)),⟨hM9,HFin.o _ HC.o⟩⟩
 have q1:ah_ m h=dq_ (nd m p).kids ((nd m p).kids.idxOf h):=by unfold ah_;rw[HPp.o];rfl
 have q2:aq_ m h=(nd m p).kids[(nd m p).kids.idxOf h+1]?:=by unfold aq_;rw[HPp.o]
 rw[q1,q2,<-HIX.o];rfl
end A
end
section
open Go.RowKit Go.Sort
namespace A
open H G
def bA_(m:aa_)(p k:Nat):Option Nat:=ah_.prevAt2 (nd m p).kids k
def cQ_(m:aa_)(p k:Nat):Option Nat:=(nd m p).kids[k]?
theorem eG_{T:am_}{m:aa_}{pos:Nat->Nat}(F:Fits T m pos){h p k:Nat}(hph:has m p=true)(hr:(nd m h).parent=none)(hk:k<=(nd m p).kids.length) :
  (∀a,bA_ m p k=some a->has m a=true/\a≠h/\a≠p/\cQ_ m p k≠some a)/\(∀b,cQ_ m p k=some b->has m b=true/\b≠h/\b≠p/\(T.sl (pos b)).prev=hdO T pos (bA_ m p k))/\(cQ_ m p k=none->(T.sl (pos p)).last=hdO T pos (bA_ m p k)):=by
 have W:=F.wf;have hnd:=W.nodup p;have kne:∀x,x∈(nd m p).kids->x≠p:=fun x hx e=>by
  have:=(W.kid p x hx).2;rw[e]at this;exact W.ne_parent this rfl
 have khe:∀x,x∈(nd m p).kids->x≠h:=fun x hx e=>by
  have:=(W.kid p x hx).2;rw[e,hr]at this
  cases this
 have inj:∀{i j x:Nat},(nd m p).kids[i]?=some x->(nd m p).kids[j]?=some x->i=j:=fun {i j x} h1 h2=>by
  have hi:i<(nd m p).kids.length:=by
   rcases Nat.lt_or_ge i (nd m p).kids.length with h3|h3
   ·exact h3
   rw[List.getElem?_eq_none h3]at h1;cases h1
  exact(List.getElem?_inj hi hnd).1 (h1.trans h2.symm)
 unfold bA_ cQ_;refine⟨fun a ha=>?_,fun b hb=>?_,fun hn=>?_⟩
 ·unfold ah_.prevAt2 at ha
  split at ha
  ·cases ha
  rename_i h0
  have hma:=List.mem_of_getElem? ha;refine⟨by_ F hph hma,khe a hma,kne a hma,fun e=>?_⟩;have:=inj ha e;omega
 ·have hmb:=List.mem_of_getElem? hb
  have hbh:=by_ F hph hmb;refine⟨hbh,khe b hmb,kne b hmb,?_⟩;rw[F.prev b hbh,d2_ W hb]
 have hkl:k=(nd m p).kids.length:=by
  have:=List.getElem?_eq_none_iff.1 hn;omega
 rw[F.last p hph,hkl,cZ_]
def pu1(T:am_)(m:aa_)(pos:Nat->Nat)(h p k:Nat):am_:=(T.modS (pos h) fun r=>{ r with parent:=hd T pos p }).modS (pos h) fun r=>{ r with next:=hdO T pos (cQ_ m p k) }
def pu2(T T1:am_)(m:aa_)(pos:Nat->Nat)(h p k:Nat):am_:=match cQ_ m p k with
 |none=>(T1.modS (pos h) fun r=>{ r with prev:=hdO T pos (bA_ m p k) }).modS (pos p) fun r=>{ r with last:=hd T pos h }
 |some b=>(T1.modS (pos h) fun r=>{ r with prev:=hdO T pos (bA_ m p k) }).modS (pos b) fun r=>{ r with prev:=hd T pos h }
def pu3(T T2:am_)(m:aa_)(pos:Nat->Nat)(h p k:Nat):am_:=match bA_ m p k with
 |none=>T2.modS (pos p) fun r=>{ r with first:=hd T pos h }
 |some a=>T2.modS (pos a) fun r=>{ r with next:=hd T pos h }
theorem bb_.pu1(T:am_)(m:aa_)(pos:Nat->Nat)(h p k:Nat):bb_ T (pu1 T m pos h p k):=(bb_.modS T (pos h) (f:=fun r=>{ r with parent:=hd T pos p }) (fun r=>rfl)).trans (bb_.modS _ (pos h) (f:=fun r=>{ r with next:=hdO T pos (cQ_ m p k) }) (fun r=>rfl))
theorem bb_.pu2(T T1:am_)(m:aa_)(pos:Nat->Nat)(h p k:Nat):bb_ T1 (pu2 T T1 m pos h p k):=by
 have h1:=bb_.modS T1 (pos h) (f:=fun r=>{ r with prev:=hdO T pos (bA_ m p k) }) (fun r=>rfl);unfold A.pu2
 cases cQ_ m p k with
 |none=>exact h1.trans (bb_.modS _ _ (fun r=>rfl))
 |some a=>exact h1.trans (bb_.modS _ _ (fun r=>rfl))
theorem bb_.pu3(T T2:am_)(m:aa_)(pos:Nat->Nat)(h p k:Nat):bb_ T2 (pu3 T T2 m pos h p k):=by
 unfold A.pu3
 cases bA_ m p k with
 |none=>exact bb_.modS _ _ (fun r=>rfl)
 |some a=>exact bb_.modS _ _ (fun r=>rfl)
section
variable {T:am_} {m:aa_} {pos:Nat->Nat}
theorem o2_(F:Fits T m pos){h p k:Nat}(hh:has m h=true){i:Nat}(hi:has m i=true) :
  (pu1 T m pos h p k).sl (pos i)=if i=h then { T.sl (pos i)with parent:=hd T pos p,next:=hdO T pos (cQ_ m p k) } else T.sl (pos i):=by
 unfold pu1;rw[bP_ F (bb_.modS T (pos h) (f:=fun r=>{ r with parent:=hd T pos p }) (fun r=>rfl)) hi hh,bP_ F (bb_.refl T) hi hh]
 by_cases e:i=h<;>simp[e]
theorem o1_(F:Fits T m pos){h p k:Nat}(hh:has m h=true)(hph:has m p=true)(hr:(nd m h).parent=none)(hk:k<=(nd m p).kids.length)(hne:h≠p){T1:am_}(L:bb_ T T1){i:Nat}(hi:has m i=true) :
  (pu2 T T1 m pos h p k).sl (pos i)={ T1.sl (pos i)with last:=if i=p/\cQ_ m p k=none then hd T pos h else(T1.sl (pos i)).last,prev:=if i=h then hdO T pos (bA_ m p k)else if cQ_ m p k=some i then hd T pos h else(T1.sl (pos i)).prev }:=by
 obtain⟨h1,h2,h3⟩:=eG_ F hph hr hk;have L1:=L.trans (bb_.modS T1 (pos h) (f:=fun r=>{ r with prev:=hdO T pos (bA_ m p k) }) (fun r=>rfl));unfold pu2
 cases hb:cQ_ m p k with
 |none=>
  dsimp only;rw[bP_ F L1 hi hph,bP_ F L hi hh]
  by_cases e:i=h
  ·subst e;simp[hne]
  by_cases e2:i=p<;>simp[e,e2,Ne.symm hne]
 |some b=>
  obtain⟨b1,b2,b3,b4⟩:=h2 b hb;dsimp only;rw[bP_ F L1 hi b1,bP_ F L hi hh]
  by_cases e:i=h
  ·subst e;simp[Ne.symm b2]
  by_cases e2:i=b
  ·simp[e,e2,b2]
  have e3:¬b=i:=fun x=>e2 x.symm;simp[e,e2,e3]
theorem o0_(F:Fits T m pos){h p k:Nat}(hph:has m p=true)(hr:(nd m h).parent=none)(hk:k<=(nd m p).kids.length){T2:am_}(L:bb_ T T2){i:Nat}(hi:has m i=true) :
  (pu3 T T2 m pos h p k).sl (pos i)={ T2.sl (pos i)with first:=if i=p/\bA_ m p k=none then hd T pos h else(T2.sl (pos i)).first,next:=if bA_ m p k=some i then hd T pos h else(T2.sl (pos i)).next }:=by
 obtain⟨h1,h2,h3⟩:=eG_ F hph hr hk;unfold pu3
 cases hb:bA_ m p k with
 |none=>
  dsimp only;rw[bP_ F L hi hph]
  by_cases e2:i=p<;>simp[e2]
 |some a=>
  obtain⟨b1,b2,b3,b4⟩:=h1 a hb;dsimp only;rw[bP_ F L hi b1]
  by_cases e2:i=a
  ·simp[e2]
  have e3:¬a=i:=fun x=>e2 x.symm;simp[e2,e3]
theorem ji_(F:Fits T m pos){h p k:Nat}(hh:has m h=true)(hph:has m p=true)(hr:(nd m h).parent=none)(hk:k<=(nd m p).kids.length)(hne:h≠p) :
  nr_ T (pu3 T (pu2 T (pu1 T m pos h p k) m pos h p k) m pos h p k) m pos h p (ah_.prevAt2 (nd m p).kids k) (nd m p).kids[k]?:=by
 show nr_ T _ m pos h p (bA_ m p k) (cQ_ m p k);obtain⟨h1,h2,h3⟩:=eG_ F hph hr hk;have hbh:bA_ m p k≠some h:=fun e=>(h1 h e).2.1 rfl;have L1:=bb_.pu1 T m pos h p k;have L2:=L1.trans (bb_.pu2 T (pu1 T m pos h p k) m pos h p k);have L:=L2.trans (bb_.pu3 T (pu2 T (pu1 T m pos h p k) m pos h p k) m pos h p k);have hs3:=fun i (hi:has m i=true)=>o0_ F hph hr hk L2 hi;have hs2:=fun i (hi:has m i=true)=>o1_ F hh hph hr hk hne L1 hi;have hs1:=fun i (hi:has m i=true)=>o2_ (p:=p) (k:=k) F hh hi;refine⟨L.bs,L.st,L.len,L.frees,L.live,L.root,L.used,fun i hi=>?_,fun i hi=>?_,fun i hi=>?_,fun i hi=>?_,fun i hi=>?_,fun i hi=>?_⟩
 ·rw[hs3 i hi,hs2 i hi,hs1 i hi];by_cases e:i=h<;>simp[e]
 ·rw[hs3 i hi,hs2 i hi,hs1 i hi];by_cases e:i=h<;>simp[e]
 ·rw[hs3 i hi,hs2 i hi,hs1 i hi];by_cases e:i=h<;>simp[e]
 ·rw[hs3 i hi,hs2 i hi,hs1 i hi];by_cases e:i=h<;>simp[e]
 ·rw[hs3 i hi,hs2 i hi,hs1 i hi];by_cases e:i=h<;>simp[e]
 rw[hs3 i hi,hs2 i hi,hs1 i hi]
 by_cases e:i=h
 ·subst e;simp[hbh]
 simp[e]
end
end A
end
section
open Go.RowKit Go.Sort
namespace A
open H G
theorem link_(T:am_)(m:aa_)(pos:Nat->Nat)(h p k:Nat)(w:World)(hT:ag_ w T m pos)(hh:has m h=true)(hph:has m p=true)(hr:(nd m h).parent=none)(hk:k<=(nd m p).kids.length)(hne:h≠p)(hW:WF (put m p h k)) :
  Calls Tryz.prog 118 #[.pointer (some ⟨T.tb,0,none⟩),.int .i64 (hd T pos p),.int .i64 (hd T pos h),.int .i64 (hdO T pos (cQ_ m p k))] w fun e w'=>∃T',e=.returned (.agg (av_ T pos (cY_ m p h k)).toArray)/\H.Frame (fun k=>k=T.g) w w'/\bb_ T T'/\ag_ w' T' (put m p h k) pos:=by
 have hF:=hT.fits;have hfew:=hT.mem.few;obtain⟨hbf,haf,hlast⟩:=eG_ hF hph hr hk;have HT:=hi_ hT;have HBf:=hi_ hbf;have HAf:=hi_ haf;have HLa:=hi_ hlast;have HC:=hi_ (ji_ hF hh hph hr hk hne);have HFin:=hi_ (fun T' C=>hF.put (T':=T') hh hph hr hne hk hW C);have QA:=hi_ (fun(y:Nat) (hy:has m y=true) (T1:am_) (L:bb_ T T1) W (hW:al_ W T1)=>(by
  have h1:=at_ T1 (hd T pos y) W hW (by have:=aP_ (T:=T) (pos:=pos) y;omega) (by have:=bF_ hfew hF hy;omega);rw[L.ptr,bM_ hfew hF hy 1,L.tb]at h1;exact h1:Calls Tryz.prog 83 #[.pointer (some ⟨T.tb,0,none⟩),.int .i64 (hd T pos y)] W fun e w'=>e=.returned (.pointer (some ⟨T.g,pos y*10+1,none⟩))/\Below W.heap.size W w'))
 have hput:has (put m p h k) h=true:=by rw[mH_ (aR_ hh) (aR_ hph)];exact hh
 have hpp:(nd (put m p h k) h).parent=some p:=by rw[bC_ (aR_ hh) (aR_ hph)];simp
 have hidx:(nd (put m p h k) p).kids.idxOf h=k:=by
  rw[bC_ (aR_ hh) (aR_ hph)];dsimp only;rw[if_pos rfl];exact es_ (fun hm=>by have:=(hF.wf.kid p h hm).2;rw[hr]at this;cases this) hk
 have QI:=hi_ (fun T' (L:bb_ T T') W (hW:ag_ W T' (put m p h k) pos)=>(by
  have h1:=d6_ T' (put m p h k) pos h p W hW hput hpp;rw[hidx,L.tb,show hd T' pos h=hd T pos h by unfold hd;rw[L.bs,L.st]]at h1;exact h1:Calls Tryz.prog 87 #[.pointer (some ⟨T.tb,0,none⟩),.int .i64 (hd T pos h)] W fun e w'=>e=.returned (.int .i64 k)/\Below W.heap.size W w'))
 have L1:=hi_ (bb_.pu1 T m pos h p k);have S0:=hi_ (hF.lt h hh);have S1:=hi_ (hF.lt p hph);have hB1:=(Below.refl w.heap.size w).alloc (nl_) (.cells #[.int .i64 0,.int .i64 0,.int .i64 0,.int .i64 0,.int .i64 0,.int .i64 0,.string ⟨#[]⟩,.string ⟨#[]⟩,.bool false,.int .i64 0,.int .i64 0] 73);have HB1:=hi_ hB1;have HR1:=hi_ (Blk.new w #[.int .i64 0,.int .i64 0,.int .i64 0,.int .i64 0,.int .i64 0,.int .i64 0,.string ⟨#[]⟩,.string ⟨#[]⟩,.bool false,.int .i64 0,.int .i64 0] 73);have Q1:=hi_ (QA.o p hph T (bb_.refl T) _ (hT.below hB1).mem);have HH:=hi_ hh;have HPh:=hi_ hph;have HNe:=hi_ hne;have HRt:=hi_ hr;have HK:=hi_ hk;obtain⟨zb,hzb⟩:∃z,z=hdO T pos (cQ_ m p k):=⟨_,rfl⟩;have HZb:=hi_ hzb;rw[<-hzb];clear hT hr hk hne hbf haf hlast hB1 hW hput hpp hidx hzb
 go_enter Tryz.func118,Tryz.ntmps118
 go_wp2_with fail
 refine Q1.o.mono ?_;rintro e w2 ⟨rfl,hb2⟩;have HB2:=bt_ HB1 hb2;have HR2:=hi_ (HR1.o.below hb2);have Q2:=hi_ (QA.o h HH.o T (bb_.refl T) _ (HT.o.below HB2.o).mem);clear hb2 Q1 HB1 HR1;go_wp2_with fail
 refine Q2.o.mono ?_;rintro e w3 ⟨rfl,hb3⟩;have HB3:=bt_ HB2 hb3;have HR3:=hi_ (HR2.o.below hb3);clear hb3 Q2 HB2 HR2;have HM3:=hi_ (HT.o.below HB3.o).mem;have k5:=(HM3.o.cell S0.out (k:=5) (by omega)).1;have k5':w3.cell? ⟨T.g,pos h*10+5,none⟩=some (Value.int .i64 (T.sl (pos h)).parent):=k5;have k9:=(HM3.o.cell S0.out (k:=9) (by omega)).1;have k9':w3.cell? ⟨T.g,pos h*10+9,none⟩=some (Value.int .i64 (T.sl (pos h)).next):=k9;have f5:=HM3.o.free_ S0.out (k:=5) (by omega);have f9:=HM3.o.free_ S0.out (k:=9) (by omega);have hl1:=c9_ T (pos h) (fun r=>{ r with parent:=hd T pos p });have HST1:=hi_ (HM3.o.store S0.out (k:=5) (by omega) (.int .i64 (hd T pos p)) (fun r=>{ r with parent:=hd T pos p }) rfl (fun r=>⟨rfl,rfl⟩))
 have HST2:=hi_ (HST1.o.store (s:=pos h) (by rw[hl1];exact S0.out) (k:=9) (by omega) (.int .i64 (hdO T pos (cQ_ m p k))) (fun r=>{ r with next:=hdO T pos (cQ_ m p k) }) rfl (fun r=>⟨rfl,rfl⟩));have hG2:w.heap.size≠T.g:=fun e=>ai_ HM3.o.row HR3.o (by decide) (by rw[e];rfl);have HG2:=hi_ hG2;rw[<-HZb.o]at HST2;have HM4:Hd (al_ ((w3.setCell ⟨T.g,pos h*10+1+4,none⟩ (.int .i64 (hd T pos p))).setCell ⟨T.g,pos h*10+1+8,none⟩ (.int .i64 zb)) (pu1 T m pos h p k)):=hi_ (by unfold pu1;rw[<-HZb.o];exact HST2.o);have HF4:Hd (H.Frame (fun k=>k=T.g) w ((w3.setCell ⟨T.g,pos h*10+1+4,none⟩ (.int .i64 (hd T pos p))).setCell ⟨T.g,pos h*10+1+8,none⟩ (.int .i64 zb))):=hi_ (frG (frG (H.Frame.of HB3.o) _ _) _ _)
 have HR4:Hd (Blk w.heap.size #[.int .i64 0,.int .i64 0,.int .i64 0,.int .i64 0,.int .i64 0,.int .i64 0,.string ⟨#[]⟩,.string ⟨#[]⟩,.bool false,.int .i64 0,.int .i64 0] 73 ((w3.setCell ⟨T.g,pos h*10+1+4,none⟩ (.int .i64 (hd T pos p))).setCell ⟨T.g,pos h*10+1+8,none⟩ (.int .i64 zb))):=hi_ ((HR3.o.far hG2 _ _).far hG2 _ _);clear k5 k9 hl1 hG2 HST1 HST2
 go_upto_if 26 with fail
 generalize (w3.setCell ⟨T.g,pos h*10+1+4,none⟩ (.int .i64 (hd T pos p))).setCell ⟨T.g,pos h*10+1+8,none⟩ (.int .i64 zb)=w4 at *;clear k5' k9' f5 f9 HM3 HR3 HB3;have hs1:=fun i (hi:has m i=true)=>o2_ (p:=p) (k:=k) hF HH.o hi;have HS1h:=hi_ (hs1 h HH.o);have HS1p:=hi_ (show(pu1 T m pos h p k).sl (pos p)=T.sl (pos p) by rw[hs1 p HPh.o,if_neg (Ne.symm HNe.o)]);have HS1b:=hi_ (fun b (hb:has m b=true) (hn:b≠h)=>(show(pu1 T m pos h p k).sl (pos b)=T.sl (pos b) by rw[hs1 b hb,if_neg hn]));obtain⟨T1,hT1⟩:∃T1,T1=pu1 T m pos h p k:=⟨_,rfl⟩;rw[<-hT1]at HM4 HC L1 HS1h HS1p HS1b;have S01:=hi_ (show pos h<T1.slots.length by rw[L1.out.len];exact S0.out);have S11:=hi_ (show pos p<T1.slots.length by rw[L1.out.len];exact S1.out);have EG:=L1.out.g
 have hlm:=c9_ T1 (pos h) (fun r=>{ r with prev:=hdO T pos (bA_ m p k) });have HLm:=hi_ hlm;have hlg4:=(ad_ HM4.o.row).1;rw[EG]at hlg4;clear hs1 hT1 hlm
 go_cut [] (fun wx=>Hd (al_ wx (pu2 T T1 m pos h p k))/\Hd (H.Frame (fun k=>k=T.g) w wx)/\Hd (Blk w.heap.size #[.int .i64 0,.int .i64 0,.int .i64 0,.int .i64 0,.int .i64 0,.int .i64 0,.string ⟨#[]⟩,.string ⟨#[]⟩,.bool false,.int .i64 0,.int .i64 0] 73 wx))
 case first=>
  have k8h:=(HM4.o.cell S01.out (k:=8) (by omega)).1;have f8h:=HM4.o.free_ S01.out (k:=8) (by omega);rw[EG]at k8h f8h;have k8h':_=some (Value.int .i64 (T1.sl (pos h)).prev):=k8h
  cases haf:cQ_ m p k with
  |none=>
   have hz0:zb=0:=by rw[HZb.o,haf];rfl
   subst hz0;have k7:=(HM4.o.cell S11.out (k:=7) (by omega)).1;rw[EG,HS1p.o]at k7;have k7':_=some (Value.int .i64 (T.sl (pos p)).last):=k7;rw[HLa.o haf]at k7';have hst:=HM4.o.store S01.out (k:=8) (by omega) (.int .i64 (hdO T pos (bA_ m p k))) (fun r=>{ r with prev:=hdO T pos (bA_ m p k) }) rfl (fun r=>⟨rfl,rfl⟩);have S12:pos p<(T1.modS (pos h) fun r=>{ r with prev:=hdO T pos (bA_ m p k) }).slots.length:=by rw[HLm.o];exact S11.out
   have c7:=(hst.cell S12 (k:=7) (by omega)).1;have g7:=hst.free_ S12 (k:=7) (by omega);have HST:=hi_ (hst.store S12 (k:=7) (by omega) (.int .i64 (hd T pos h)) (fun r=>{ r with last:=hd T pos h }) rfl (fun r=>⟨rfl,rfl⟩));have HUN:Hd (pu2 T T1 m pos h p k=(T1.modS (pos h) fun r=>{ r with prev:=hdO T pos (bA_ m p k) }).modS (pos p) fun r=>{ r with last:=hd T pos h }):=hi_ (by unfold pu2;rw[haf]);have eg2:(T1.modS (pos h) fun r=>{ r with prev:=hdO T pos (bA_ m p k) }).g=T.g:=EG;rw[eg2,EG]at c7 g7 HST;have c7':_=some (Value.int .i64 ((T1.modS (pos h) fun r=>{ r with prev:=hdO T pos (bA_ m p k) }).sl (pos p)).last):=c7;have n1:¬pos p*10+7=pos h*10+8:=by omega
   have n2:¬pos h*10+8=pos p*10+7:=by omega
   clear k7 k8h hst c7 haf S12 eg2;go_wp2_with fail
   go_meet
   refine⟨hi_ ?_,hi_ (frG (frG HF4.o _ _) _ _),hi_ ((HR4.o.far HG2.o _ _).far HG2.o _ _)⟩;rw[HUN.o];exact HST.o
  |some b=>
   obtain⟨hb1,hb2,hb3,hb4⟩:=HAf.o b haf;have hzb:zb=hd T pos b:=by rw[HZb.o,haf];rfl
   subst hzb;have hne1:¬hd T pos b=0:=by have:=aP_ (T:=T) (pos:=pos) b;omega
   have hne0:(hd T pos b==0)=false:=bn_ hne1;have hne2:(hd T pos b != 0)=true:=bne_iff_ne.2 hne1;have S2:=hi_ (show pos b<T1.slots.length by rw[L1.out.len];exact hF.lt b hb1);have HUN:Hd (pu2 T T1 m pos h p k=(T1.modS (pos h) fun r=>{ r with prev:=hdO T pos (bA_ m p k) }).modS (pos b) fun r=>{ r with prev:=hd T pos h }):=hi_ (by unfold pu2;rw[haf]);have Q3:=hi_ (QA.o b hb1 T1 L1.out w4 HM4.o);have HQb:=hi_ (QA.o b hb1);have hsb:=HS1b.o b hb1 hb2;have HSb:=hi_ hsb;have HB4:=hi_ hb4;clear k8h k8h' f8h hb1 hb2 hb3 haf hb4 hsb;go_wp2_with fail
   refine Q3.o.mono ?_;rintro e w5 ⟨rfl,hb5⟩;have HM5:=hi_ (HM4.o.below hb5);have HF5:=hi_ (HF4.o.below_ hb5);have HR5:=hi_ (HR4.o.below hb5);have k8b:=(HM5.o.cell S2.out (k:=8) (by omega)).1;rw[EG,HSb.o]at k8b;have k8b':_=some (Value.int .i64 (T.sl (pos b)).prev):=k8b;rw[HB4.o]at k8b';have k8h:=(HM5.o.cell S01.out (k:=8) (by omega)).1;have f8h:=HM5.o.free_ S01.out (k:=8) (by omega);rw[EG]at k8h f8h;have k8h':_=some (Value.int .i64 (T1.sl (pos h)).prev):=k8h;have hst:=HM5.o.store S01.out (k:=8) (by omega) (.int .i64 (hdO T pos (bA_ m p k))) (fun r=>{ r with prev:=hdO T pos (bA_ m p k) }) rfl (fun r=>⟨rfl,rfl⟩);rw[EG]at hst;have HST0:=hi_ hst;have HLk:=hi_ (L1.out.trans (bb_.modS T1 (pos h) (f:=fun r=>{ r with prev:=hdO T pos (bA_ m p k) }) (fun r=>rfl)));clear k8b k8h hb5 Q3 hst;go_wp2_with fail
   have Q4:=hi_ (HQb.o _ HLk.o _ HST0.o);refine Q4.o.mono ?_;rintro e w6 ⟨rfl,hb6⟩;have HM6:=hi_ (HST0.o.below hb6);have HF6:=hi_ ((frG HF5.o (pos h*10+8) (.int .i64 (hdO T pos (bA_ m p k)))).below_ hb6);have HR6:=hi_ ((HR5.o.far HG2.o (pos h*10+8) (.int .i64 (hdO T pos (bA_ m p k)))).below hb6);have S22:pos b<(T1.modS (pos h) fun r=>{ r with prev:=hdO T pos (bA_ m p k) }).slots.length:=by rw[HLm.o];exact S2.out
   have c8:=(HM6.o.cell S22 (k:=8) (by omega)).1;have g8:=HM6.o.free_ S22 (k:=8) (by omega);have hst:=HM6.o.store S22 (k:=8) (by omega) (.int .i64 (hd T pos h)) (fun r=>{ r with prev:=hd T pos h }) rfl (fun r=>⟨rfl,rfl⟩);have eg2:(T1.modS (pos h) fun r=>{ r with prev:=hdO T pos (bA_ m p k) }).g=T.g:=EG;rw[eg2]at c8 g8 hst;have HST:=hi_ hst;have c8':_=some (Value.int .i64 ((T1.modS (pos h) fun r=>{ r with prev:=hdO T pos (bA_ m p k) }).sl (pos b)).prev):=c8;clear c8 hst hb6 Q4 k8b' k8h' f8h eg2 S22;go_wp2_with fail
   go_meet
   refine⟨hi_ ?_,hi_ (frG HF6.o _ _),hi_ (HR6.o.far HG2.o _ _)⟩;rw[HUN.o];exact HST.o
 obtain⟨HM5,HF5,HR5⟩:=hcut;clear HM4 HF4 HR4;have L2:=hi_ (L1.out.trans (bb_.pu2 T T1 m pos h p k));have HPh2:=hi_ (show((pu2 T T1 m pos h p k).sl (pos h)).prev=hdO T pos (bA_ m p k) by rw[o1_ hF HH.o HPh.o HRt.o HK.o HNe.o L1.out HH.o];dsimp only;rw[if_pos rfl]);obtain⟨T2,hT2⟩:∃T2,T2=pu2 T T1 m pos h p k:=⟨_,rfl⟩;rw[<-hT2]at HM5 HC L2 HPh2;have S02:=hi_ (show pos h<T2.slots.length by rw[L2.out.len];exact S0.out);have S12:=hi_ (show pos p<T2.slots.length by rw[L2.out.len];exact S1.out);have EG2:=L2.out.g;have k8:=(HM5.o.cell S02.out (k:=8) (by omega)).1;rw[EG2]at k8;have k8':_=some (Value.int .i64 (T2.sl (pos h)).prev):=k8;rw[HPh2.o]at k8';clear hT2 k8 EG HLm hlg4 S01 S11
 go_upto_if 57 with fail
 go_cut [] (fun wx=>Hd (al_ wx (pu3 T T2 m pos h p k))/\Hd (H.Frame (fun k=>k=T.g) w wx)/\Hd (Blk w.heap.size #[.int .i64 0,.int .i64 0,.int .i64 0,.int .i64 0,.int .i64 0,.int .i64 0,.string ⟨#[]⟩,.string ⟨#[]⟩,.bool false,.int .i64 0,.int .i64 0] 73 wx))
 case first=>
  cases hbf:bA_ m p k with
  |none=>
   rw[hbf]at k8';have k6:=(HM5.o.cell S12.out (k:=6) (by omega)).1;have f6:=HM5.o.free_ S12.out (k:=6) (by omega);have hst:=HM5.o.store S12.out (k:=6) (by omega) (.int .i64 (hd T pos h)) (fun r=>{ r with first:=hd T pos h }) rfl (fun r=>⟨rfl,rfl⟩);rw[EG2]at k6 f6 hst;have k6':_=some (Value.int .i64 (T2.sl (pos p)).first):=k6;have HST:=hi_ hst;have HUN:Hd (pu3 T T2 m pos h p k=T2.modS (pos p) fun r=>{ r with first:=hd T pos h }):=hi_ (by unfold pu3;rw[hbf]);have z1:(hdO T pos none != 0)=false:=rfl;have z2:(hdO T pos none==0)=true:=rfl;have z3:hdO T pos none=0:=rfl;clear hbf k6 hst;go_wp2_with fail
   go_meet
   refine⟨hi_ ?_,hi_ (frG HF5.o _ _),hi_ (HR5.o.far HG2.o _ _)⟩;rw[HUN.o];exact HST.o
  |some a=>
   obtain⟨ha1,ha2,ha3,ha4⟩:=HBf.o a hbf;rw[hbf]at k8';have hne1:¬hd T pos a=0:=by have:=aP_ (T:=T) (pos:=pos) a;omega
   have hne0:(hd T pos a==0)=false:=bn_ hne1;have hne2:(hdO T pos (some a) != 0)=true:=bne_iff_ne.2 hne1;have hne3:¬hdO T pos (some a)=0:=hne1;have hne4:(hdO T pos (some a)==0)=false:=hne0;have S2:=hi_ (show pos a<T2.slots.length by rw[L2.out.len];exact hF.lt a ha1);have HUN:Hd (pu3 T T2 m pos h p k=T2.modS (pos a) fun r=>{ r with next:=hd T pos h }):=hi_ (by unfold pu3;rw[hbf]);have Q3:=hi_ (QA.o a ha1 T2 L2.out _ HM5.o);clear ha1 ha2 ha3 ha4 hbf;go_wp2_with fail
   refine Q3.o.mono ?_;rintro e w6 ⟨rfl,hb6⟩;have HM6:=hi_ (HM5.o.below hb6);have HF6:=hi_ (HF5.o.below_ hb6);have HR6:=hi_ (HR5.o.below hb6);have k9:=(HM6.o.cell S2.out (k:=9) (by omega)).1;have f9:=HM6.o.free_ S2.out (k:=9) (by omega);have hst:=HM6.o.store S2.out (k:=9) (by omega) (.int .i64 (hd T pos h)) (fun r=>{ r with next:=hd T pos h }) rfl (fun r=>⟨rfl,rfl⟩);rw[EG2]at k9 f9 hst;have k9':_=some (Value.int .i64 (T2.sl (pos a)).next):=k9;have HST:=hi_ hst;clear k9 hst hb6 Q3 k8';go_wp2_with fail
   go_meet
   refine⟨hi_ ?_,hi_ (frG HF6.o _ _),hi_ (HR6.o.far HG2.o _ _)⟩;rw[HUN.o];exact HST.o
 obtain⟨HM6,HF6,HR6⟩:=hcut;clear HM5 HF5 HR5 k8';have L3:=hi_ (L2.out.trans (bb_.pu3 T T2 m pos h p k));have HPh3:=hi_ (show((pu3 T T2 m pos h p k).sl (pos h)).prev=hdO T pos (bA_ m p k) by rw[o0_ hF HPh.o HRt.o HK.o L2.out HH.o];dsimp only;exact HPh2.o);obtain⟨T3,hT3⟩:∃T3,T3=pu3 T T2 m pos h p k:=⟨_,rfl⟩;rw[<-hT3]at HM6 HC L3 HPh3;have HF3:=hi_ (HFin.o _ HC.o);have S03:=hi_ (show pos h<T3.slots.length by rw[L3.out.len];exact S0.out);have EG3:=L3.out.g;have k8:=(HM6.o.cell S03.out (k:=8) (by omega)).1;have hlg:=(ad_ HM6.o.row).1;rw[EG3]at k8 hlg;have k8':_=some (Value.int .i64 (T3.sl (pos h)).prev):=k8;rw[HPh3.o]at k8';have D8:=fun d:Later wc.heap.size wc=>Later.cell k8' hlg d;have QIx:=hi_ (fun(d:Later wc.heap.size wc)=>QI.o T3 L3.out d.w ⟨HM6.o.below d.h,HF3.o⟩);clear hT3 k8 EG2
 go_wp2_with fail
 refine aS_ 11 (by kernel_rfl) (by kernel_rfl) ?_;simp only[List.take_succ_cons,List.take_zero,List.drop_succ_cons,List.drop_zero];repeat (go_big_quiet_step ((go_at_call 87;exact Calls.later (QIx.o _))))
 refine wq_ (fun dq=>?_);have HM7:=hi_ (HM6.o.below dq.h);have HF7:=hi_ (HF6.o.below_ dq.h);have HR7:=hi_ (HR6.o.below dq.h);obtain⟨⟨r0,r1,r2,r3,r4,r5,r6,r7,r8,r9,r10⟩,⟨f0,f1,f2,f3,f4,f5,f6,f7,f8,f9,f10⟩⟩:=bq_ HR7.o;have h9:=Blk.set11 HR7.o (.int .i64 1) (.int .i64 (hd T pos p)) (.int .i64 (hd T pos h)) (.int .i64 (hdO T pos (bA_ m p k))) (.int .i64 zb) (.int .i64 k) (.string ⟨#[]⟩) (.string ⟨#[]⟩) (.bool false) (.int .i64 0) (.int .i64 0);have hF9:=cz_ HF7.o (g:=w.heap.size) (Or.inr (nl_)) (.int .i64 1) (.int .i64 (hd T pos p)) (.int .i64 (hd T pos h)) (.int .i64 (hdO T pos (bA_ m p k))) (.int .i64 zb) (.int .i64 k) (.string ⟨#[]⟩) (.string ⟨#[]⟩) (.bool false) (.int .i64 0) (.int .i64 0)
 have hM9:=HM7.o.beside HR7.o (cz_ (H.Frame.refl (fun k=>k=w.heap.size) _) (Or.inl rfl) (.int .i64 1) (.int .i64 (hd T pos p)) (.int .i64 (hd T pos h)) (.int .i64 (hdO T pos (bA_ m p k))) (.int .i64 zb) (.int .i64 (k:Nat)) (.string ⟨#[]⟩) (.string ⟨#[]⟩) (.bool false) (.int .i64 0) (.int .i64 0)) (by decide) (by decide) (by decide) (by decide);have H9:=hi_ h9;have HF9:=hi_ hF9;have HM9:=hi_ hM9;clear D8 k8' hlg h9 hF9 hM9;go_wp2_with fail
 obtain⟨⟨l0,l1,l2,l3,l4,l5,l6,l7,l8,l9,l10⟩,_⟩:=bq_ H9.o;change bodyPost _ _ _ _ _ (set11 dq.w w.heap.size (.int .i64 1) (.int .i64 (hd T pos p)) (.int .i64 (hd T pos h)) (.int .i64 (hdO T pos (bA_ m p k))) (.int .i64 zb) (.int .i64 k) (.string ⟨#[]⟩) (.string ⟨#[]⟩) (.bool false) (.int .i64 0) (.int .i64 0));generalize set11 dq.w w.heap.size (.int .i64 1) (.int .i64 (hd T pos p)) (.int .i64 (hd T pos h)) (.int .i64 (hdO T pos (bA_ m p k))) (.int .i64 zb) (.int .i64 k) (.string ⟨#[]⟩) (.string ⟨#[]⟩) (.bool false) (.int .i64 0) (.int .i64 0)=W9 at *
 refine bodyPost_ret (v:=.agg #[.int .i64 1,.int .i64 (hd T pos p),.int .i64 (hd T pos h),.int .i64 (hdO T pos (bA_ m p k)),.int .i64 zb,.int .i64 k,.string ⟨#[]⟩,.string ⟨#[]⟩,.bool false,.int .i64 0,.int .i64 0]) (by simp[results,Tryz.results118,go_sem,l0,l1,l2,l3,l4,l5,l6,l7,l8,l9,l10]) rfl ⟨T3,?_,HF9.o,L3.out,⟨HM9.o,HF3.o⟩⟩;rw[HZb.o];rfl
theorem kf_{f:Nat->Bool}{l:List Nat}{i x:Nat}(h:l[i]?=some x):(l.drop i).all f=(f x && (l.drop (i+1)).all f):=by
 have hi:i<l.length:=by
  rcases Nat.lt_or_ge i l.length with h2|h2
  ·exact h2
  rw[List.getElem?_eq_none h2]at h;cases h
 rw[List.drop_eq_getElem_cons hi,List.all_cons];rw[List.getElem?_eq_getElem hi]at h;injection h with h
 rw[h]
theorem may_(T:am_)(m:aa_)(pos:Nat->Nat)(p h:Nat)(w:World)(hT:ag_ w T m pos)(hph:has m p=true)(hh:has m h=true) :
  Calls Tryz.prog 114 #[.pointer (some ⟨T.tb,0,none⟩),.int .i64 (hd T pos p),.int .i64 (hd T pos h)] w fun e w'=>e=.returned (.bool (may m p h))/\Below w.heap.size w w':=by
 have hF:=hT.fits;have hfew:=hT.mem.few;have HT:=hi_ hT;have QA:=hi_ (fun(y:Nat) (hy:has m y=true) W (hb:Below w.heap.size w W)=>(by
  have h1:=at_ T (hd T pos y) W (hT.below hb).mem (by have:=aP_ (T:=T) (pos:=pos) y;omega) (by have:=bF_ hfew hF hy;omega);rw[bM_ hfew hF hy 1]at h1;exact h1:Calls Tryz.prog 83 #[.pointer (some ⟨T.tb,0,none⟩),.int .i64 (hd T pos y)] W fun e w'=>e=.returned (.pointer (some ⟨T.g,pos y*10+1,none⟩))/\Below W.heap.size W w'))
 have KC:=hi_ (fun(y:Nat) (hy:has m y=true) W (hb:Below w.heap.size w W)=>(show W.cell? ⟨T.g,pos y*10+1,none⟩=some (.int .i64 ((nd m y).kind:Nat))from by
  rw[((hT.below hb).cell hy (k:=1) (by omega)).1,<-hF.kind y hy];rfl))
 have QC:=hi_ (fun W (hb:Below w.heap.size w W)=>cp_ T m pos h p W (hT.below hb) hh hph);have QK:=hi_ (fun W (hb:Below w.heap.size w W)=>kN_ T m pos p W (hT.below hb) hph);have HK:=hi_ (fun c (hc:c∈(nd m p).kids)=>by_ hF hph hc);have HInj:=hi_ (fun c (hc:has m c=true) (e:hd T pos c=hd T pos h)=>dJ_ hF hc hh e);have hkf:=cO_ hfew hF hph;have HR:Hd (may m p h=(!((nd m h).kind==1) && !(contains m h p) && ((nd m p).kind==2 || ((nd m p).kind==1 && (nd m h).kind==4) || ((nd m p).kind==1 && (nd m h).kind==2 && (nd m p).kids.all (fun k=>k==h || (nd m k).kind != 2))))):=hi_ rfl;have Q1:=hi_ (QA.o p hph);have Q2:=hi_ (QA.o h hh);have K1:=hi_ (KC.o p hph);have K2:=hi_ (KC.o h hh);generalize may m p h=R at *;generalize hl:(nd m p).kids=l at *;generalize contains m h p=cc at *
 have HAll:Hd (∀q,q=l.all (fun k=>k==h || (nd m k).kind != 2)->R=(!((nd m h).kind==1) && !cc && ((nd m p).kind==2 || ((nd m p).kind==1 && (nd m h).kind==4) || ((nd m p).kind==1 && (nd m h).kind==2 && q)))):=hi_ (fun q hq=>by rw[hq,HR.o]);generalize hkp:(nd m p).kind=kp at *;generalize hkh:(nd m h).kind=kh at *;generalize hd T pos p=zp at *;clear hT HR hl hkp hkh
 go_enter Tryz.func114,Tryz.ntmps114
 go_wp2_with fail
 refine(Q1.o _ (br_)).mono ?_;rintro e w1 ⟨rfl,hb⟩;have HB1:=hi_ hb;clear hb;go_wp2_with fail
 refine(Q2.o _ HB1.o).mono ?_;rintro e w2 ⟨rfl,hb⟩;have HB2:=bt_ HB1 hb;clear hb HB1;have kp2:=K1.out w2 HB2.o;have kh2:=K2.out w2 HB2.o
 by_cases c1:kh=1
 ·have HRr:Hd (R=false):=hi_ (by rw[HAll.o _ rfl,c1];rfl)
  have b1:(((kh:Nat):Int)==1)=true:=by rw[c1];rfl
  have b2:((kh:Nat):Int)=1:=by omega
  clear c1;go_wp2_with fail
  go_ret
  exact⟨ap_ (a:=false) HRr.o.symm,HB2.o⟩
 have b1:(((kh:Nat):Int)==1)=false:=bn_ (by omega);have b2:¬((kh:Nat):Int)=1:=by omega
 have HC1:=hi_ (show(kh==1)=false from bn_ c1);clear c1;go_wp2_with fail
 refine(QC.o _ HB2.o).mono ?_;rintro e w3 ⟨rfl,hb⟩;have HB3:=bt_ HB2 hb;clear hb kp2 kh2;have kp3:=K1.out w3 HB3.o;have kh3:=K2.out w3 HB3.o
 cases cc with
 |true=>
  have HRr:Hd (R=false):=hi_ (by rw[HAll.o _ rfl];simp);go_wp2_with fail
  go_ret
  exact⟨ap_ (a:=false) HRr.o.symm,HB3.o⟩
 |false=>
  by_cases d1:kp=2
  ·have HRr:Hd (R=true):=hi_ (by rw[HAll.o _ rfl,HC1.o,d1];rfl)
   have e1:(((kp:Nat):Int)==2)=true:=by rw[d1];rfl
   have e2:((kp:Nat):Int)=2:=by omega
   clear d1;go_wp2_with fail
   go_ret
   exact⟨ap_ (a:=true) HRr.o.symm,HB3.o⟩
  have e1:(((kp:Nat):Int)==2)=false:=bn_ (by omega);have e2:¬((kp:Nat):Int)=2:=by omega
  have HD1:=hi_ (show(kp==2)=false from bn_ d1);clear d1
  by_cases d2:kp=1
  ·have e3:(((kp:Nat):Int)==1)=true:=by rw[d2];rfl
   have e4:((kp:Nat):Int)=1:=by omega
   have HD2:=hi_ (show(kp==1)=true from by rw[d2];rfl);have e5:(((kp:Nat):Int) != 1)=false:=by rw[d2];rfl
   clear d2
   by_cases d3:kh=4
   ·have HRr:Hd (R=true):=hi_ (by rw[HAll.o _ rfl,HC1.o,HD1.o,HD2.o,d3];rfl)
    have f1:(((kh:Nat):Int)==4)=true:=by rw[d3];rfl
    have f2:((kh:Nat):Int)=4:=by omega
    clear d3;go_wp2_with fail
    go_ret
    exact⟨ap_ (a:=true) HRr.o.symm,HB3.o⟩
   have f1:(((kh:Nat):Int)==4)=false:=bn_ (by omega);have f2:¬((kh:Nat):Int)=4:=by omega
   have HD3:=hi_ (show(kh==4)=false from bn_ d3);clear d3
   by_cases d4:kh=2
   ·have f3:(((kh:Nat):Int)==2)=true:=by rw[d4];rfl
    have f4:((kh:Nat):Int)=2:=by omega
    have f5:(((kh:Nat):Int) != 2)=false:=by rw[d4];rfl
    have HRr:Hd (∀q,q=l.all (fun k=>k==h || (nd m k).kind != 2)->R=q):=hi_ (fun q hq=>by rw[HAll.o q hq,HC1.o,HD1.o,HD2.o,HD3.o,d4];simp);clear d4;go_wp2_with fail
    refine(QK.o _ HB3.o).mono ?_;rintro e w4 ⟨v,rfl,hb,ho⟩;obtain⟨ao,cap,rfl,hcs⟩:=e2_.form ho;have HCS:=hi_ hcs;have HB4:=bt_ HB3 hb;have HI0:Hd (R=(l.drop 0).all (fun k=>k==h || (nd m k).kind != 2)):=hi_ (HRr.o _ (by rw[List.drop_zero]));clear hb ho hcs kp3 kh3 HAll HRr;generalize hlen:l.length=len at *;have HLen:=hi_ hlen;clear hlen;go_wp2_with fail
    go_loopw [63] (fun v63 wr=>∃i:Nat,v63=.int .i64 (i:Nat)/\i<=len/\Hd (R=(l.drop i).all (fun k=>k==h || (nd m k).kind != 2))/\Hd (Below w.heap.size w wr)/\Hd (Below w4.heap.size w4 wr)) (fun v63 _=>len-(a2_ v63).toNat)
    case atStart=>exact⟨0,rfl,Nat.zero_le _,HI0,HB4,hi_ (br_)⟩
    obtain⟨i,rfl,hi,HI,HU,HU4⟩:=hrel;clear HI0 HB4
    by_cases hq:i=len
    ·have hnl:¬((i:Int)<(len:Int)):=by omega
     have HF:Hd (R=true):=hi_ (by rw[HI.o,List.drop_of_length_le (by rw[HLen.o];omega)];rfl);clear hq;go_wp2_with fail
     go_ret
     exact⟨ap_ (a:=true) HF.o.symm,HU.o⟩
    have hlt:(i:Int)<(len:Int):=by omega
    have hil:i<l.length:=by rw[HLen.o];omega
    have hx:l[i]?=some l[i]:=List.getElem?_eq_getElem hil;have hxk:=HK.o _ (List.mem_of_getElem? hx);obtain⟨g,rfl,hg1,hg2,hcell⟩:=HCS.o _ _ hx;have HDr:=hi_ (kf_ (f:=fun k=>k==h || (nd m k).kind != 2) hx);generalize l[i]=x at *;have hcr:wr.cell? ⟨g,i,none⟩=some (.int .i64 (hd T pos x)):=(HU4.o.cell (p:=⟨g,i,none⟩) hg1).trans hcell;have QX:=hi_ (QA.o x hxk);have KX:=hi_ (KC.o x hxk);have HXi:=hi_ (fun(e:hd T pos x=hd T pos h)=>HInj.o x hxk e);have HXe:=hi_ (fun(e:x=h)=>congrArg (hd T pos) e);clear hq hil hx hxk hcell
    by_cases g1:hd T pos x=hd T pos h
    ·have j1:(hd T pos x==hd T pos h)=true:=by rw[g1];exact beq_self_eq_true _
     have j2:(hd T pos x != hd T pos h)=false:=by rw[g1];simp
     have HN:Hd (R=(l.drop (i+1)).all (fun k=>k==h || (nd m k).kind != 2)):=hi_ (by rw[HI.o,HDr.o,HXi.o g1];simp);clear g1;go_wp2_with fail
     go_roundw
     case rel=>exact⟨i+1,by first|rfl|(congr 1),by omega,HN,HU,HU4⟩
     show len-((i:Int)+1).toNat<len-((i:Int)).toNat;omega
    have j1:(hd T pos x==hd T pos h)=false:=bn_ g1;have j2:(hd T pos x != hd T pos h)=true:=bne_iff_ne.2 g1;have HXn:=hi_ (show(x==h)=false from bn_ (fun e=>g1 (HXe.o e)));go_wp2_with fail
    refine(QX.o _ HU.o).mono ?_;rintro e w6 ⟨rfl,hb6⟩;have HU6:=bt_ HU hb6;have HU64:=bt_ HU4 hb6;have kx:=KX.out _ HU6.o;clear hb6 hcr;generalize hkx:(nd m x).kind=kk at *;have HKx:=hi_ hkx;clear hkx
    by_cases g2:kk=2
    ·have i1:(((kk:Nat):Int)==2)=true:=by rw[g2];rfl
     have i2:((kk:Nat):Int)=2:=by omega
     have HF:Hd (R=false):=hi_ (by rw[HI.o,HDr.o,HXn.o,g2];rfl);clear g2;go_wp2_with fail
     go_ret
     exact⟨ap_ (a:=false) HF.o.symm,HU6.o⟩
    have i1:(((kk:Nat):Int)==2)=false:=bn_ (by omega);have i2:¬((kk:Nat):Int)=2:=by omega
    have HN:Hd (R=(l.drop (i+1)).all (fun k=>k==h || (nd m k).kind != 2)):=hi_ (by rw[HI.o,HDr.o,HXn.o];simp[g2]);clear g2;go_wp2_with fail
    go_roundw
    case rel=>exact⟨i+1,by first|rfl|(congr 1),by omega,HN,HU6,HU64⟩
    show len-((i:Int)+1).toNat<len-((i:Int)).toNat;omega
   have f3:(((kh:Nat):Int)==2)=false:=bn_ (by omega);have f4:¬((kh:Nat):Int)=2:=by omega
   have f5:(((kh:Nat):Int) != 2)=true:=bne_iff_ne.2 (by omega);have HRr:Hd (R=false):=hi_ (by rw[HAll.o _ rfl,HC1.o,HD1.o,HD2.o,HD3.o,show(kh==2)=false from bn_ d4];rfl);clear d4;go_wp2_with fail
   go_ret
   exact⟨ap_ (a:=false) HRr.o.symm,HB3.o⟩
  have e3:(((kp:Nat):Int)==1)=false:=bn_ (by omega);have e4:¬((kp:Nat):Int)=1:=by omega
  have e5:(((kp:Nat):Int) != 1)=true:=bne_iff_ne.2 (by omega);have HRr:Hd (R=false):=hi_ (by rw[HAll.o _ rfl,HC1.o,HD1.o,show(kp==1)=false from bn_ d2];rfl);clear d2;go_wp2_with fail
  go_ret
  exact⟨ap_ (a:=false) HRr.o.symm,HB3.o⟩
end A
end
end Go.Proofs.YtinphfpdfodkkaaGreatDoor
