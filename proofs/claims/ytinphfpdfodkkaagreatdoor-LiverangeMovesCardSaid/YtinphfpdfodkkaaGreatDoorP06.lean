/- Texts. -/
import Derived.Test.YtinphfpdfodkkaaGreatDoorP04
import Derived.Test.YtinphfpdfodkkaaGreatDoorP02
import Derived.Deep.RegionWith
import Derived.Deep.RegionHeld3
set_option linter.unusedVariables false
set_option linter.unusedSimpArgs false
set_option maxHeartbeats 8000000
set_option maxRecDepth 100000
namespace Go.Proofs.YtinphfpdfodkkaaGreatDoor
section
open Go.RowKit Go.Sort
namespace A
open H G
theorem dc_{T:am_}{m:aa_}{pos:Nat->Nat}(F:Fits T m pos){h p:Nat}(hh:has m h=true)(hp:(nd m h).parent=some p) :
  (∀a,ag_ m h=some a->has m a=true/\a≠h/\a≠p/\ap_ m h≠some a)/\(∀b,ap_ m h=some b->has m b=true/\b≠h/\b≠p)/\h≠p/\has m p=true:=by
 have W:=F.wf;have hph:=jx_ W hh hp;have hm:=(W.par h p hp).2;have hlt:=List.idxOf_lt_length_of_mem hm;have hnd:=W.nodup p;have hpr:ag_ m h=ag_.prevAt2 (nd m p).kids ((nd m p).kids.idxOf h):=by unfold ag_;rw[hp]
 have hnx:ap_ m h=(nd m p).kids[(nd m p).kids.idxOf h+1]?:=by unfold ap_;rw[hp]
 have hat:=dr_ hm;have hne:=W.ne_parent hp;have kne:∀x,x∈(nd m p).kids->x≠p:=fun x hx e=>by
  have:=(W.kid p x hx).2;rw[e]at this;exact W.ne_parent this rfl
 have inj:∀{i j x:Nat},(nd m p).kids[i]?=some x->(nd m p).kids[j]?=some x->i=j:=fun {i j x} h1 h2=>by
  have hi:i<(nd m p).kids.length:=by
   rcases Nat.lt_or_ge i (nd m p).kids.length with h3|h3
   ·exact h3
   ·rw[List.getElem?_eq_none h3]at h1;cases h1
  exact(List.getElem?_inj hi hnd).1 (h1.trans h2.symm)
 refine⟨fun a ha=>?_,fun b hb=>?_,hne,hph⟩
 ·rw[hpr]at ha
  unfold ag_.prevAt2 at ha
  split at ha
  ·cases ha
  ·rename_i h0
   have hma:=List.mem_of_getElem? ha;refine⟨bu_ F hph hma,fun e=>?_,kne a hma,fun e=>?_⟩
   ·rw[e]at ha
    have:=inj ha hat;omega
   ·rw[hnx]at e
    have:=inj ha e;omega
 ·rw[hnx]at hb
  have hmb:=List.mem_of_getElem? hb;refine⟨bu_ F hph hmb,fun e=>?_,kne b hmb⟩;rw[e]at hb;have:=inj hb hat;omega
def un1(T:am_)(m:aa_)(pos:Nat->Nat)(h p:Nat):am_:=match ag_ m h with
 |none=>T.modS (pos p) fun r=>{ r with first:=hdO T pos (ap_ m h) }
 |some a=>T.modS (pos a) fun r=>{ r with next:=hdO T pos (ap_ m h) }
def un2(T T1:am_)(m:aa_)(pos:Nat->Nat)(h p:Nat):am_:=match ap_ m h with
 |none=>T1.modS (pos p) fun r=>{ r with last:=hdO T pos (ag_ m h) }
 |some b=>T1.modS (pos b) fun r=>{ r with prev:=hdO T pos (ag_ m h) }
def un3(T:am_)(s:Nat):am_:=((T.modS s fun r=>{ r with parent:=0 }).modS s fun r=>{ r with prev:=0 }).modS s fun r=>{ r with next:=0 }
structure a9_(T T':am_):Prop where
 tb:T'.tb=T.tb
 g:T'.g=T.g
 bs:T'.bs=T.bs
 st:T'.st=T.st
 len:T'.slots.length=T.slots.length
 frees:T'.frees=T.frees
 live:T'.live=T.live
 root:T'.root=T.root
 B:T'.B=T.B
 freeV:T'.freeV=T.freeV
 used:∀s,(T'.sl s).used=(T.sl s).used
 ptr:∀o z,T'.ptr o z=T.ptr o z
theorem a9_.refl(T:am_):a9_ T T:=⟨rfl,rfl,rfl,rfl,rfl,rfl,rfl,rfl,rfl,rfl,fun _=>rfl,fun _ _=>rfl⟩
theorem a9_.trans{T T1 T2:am_}(h:a9_ T T1)(k:a9_ T1 T2):a9_ T T2:=
 ⟨k.tb.trans h.tb,k.g.trans h.g,k.bs.trans h.bs,k.st.trans h.st,k.len.trans h.len,k.frees.trans h.frees,k.live.trans h.live,k.root.trans h.root,k.B.trans h.B,k.freeV.trans h.freeV,fun s=>(k.used s).trans (h.used s),fun o z=>(k.ptr o z).trans (h.ptr o z)⟩
theorem a9_.modS(T:am_)(s:Nat){f:em_->em_}(hf:∀r,(f r).used=r.used):a9_ T (T.modS s f):=
 ⟨rfl,rfl,rfl,rfl,cY_ T s f,rfl,rfl,rfl,rfl,rfl,fun i=>kV_ hf i,fun o z=>mP_ hf o z⟩
theorem a9_.un1(T:am_)(m:aa_)(pos:Nat->Nat)(h p:Nat):a9_ T (un1 T m pos h p):=by
 unfold A.un1
 cases ag_ m h with
 |none=>exact a9_.modS _ _ (fun r=>rfl)
 |some a=>exact a9_.modS _ _ (fun r=>rfl)
theorem a9_.un2(T T1:am_)(m:aa_)(pos:Nat->Nat)(h p:Nat):a9_ T1 (un2 T T1 m pos h p):=by
 unfold A.un2
 cases ap_ m h with
 |none=>exact a9_.modS _ _ (fun r=>rfl)
 |some a=>exact a9_.modS _ _ (fun r=>rfl)
theorem a9_.un3(T:am_)(s:Nat):a9_ T (un3 T s):=((a9_.modS T s (f:=fun r=>{ r with parent:=0 }) (fun r=>rfl)).trans (a9_.modS _ s (f:=fun r=>{ r with prev:=0 }) (fun r=>rfl))).trans (a9_.modS _ s (f:=fun r=>{ r with next:=0 }) (fun r=>rfl))
section
variable {T:am_} {m:aa_} {pos:Nat->Nat}
theorem pos_ne(F:Fits T m pos){i j:Nat}(hi:has m i=true)(hj:has m j=true)(h:i≠j):pos i≠pos j:=fun e=>h (F.inj i j hi hj e)
theorem Fits.inS(F:Fits T m pos){T1:am_}(L:a9_ T T1){i:Nat}(hi:has m i=true):pos i<T1.slots.length:=by rw[L.len];exact F.lt i hi
theorem bP_(F:Fits T m pos){T1:am_}(L:a9_ T T1){i j:Nat}(hi:has m i=true)(hj:has m j=true)(f:em_->em_):(T1.modS (pos j) f).sl (pos i)=if i=j then f (T1.sl (pos i))else T1.sl (pos i):=by
 rw[sl_modS (F.inS L hj)]
 by_cases e:i=j
 ·rw[if_pos (by rw[e]),if_pos e]
 ·rw[if_neg (pos_ne F hi hj e),if_neg e]
theorem nK_(F:Fits T m pos){h p:Nat}(hh:has m h=true)(hp:(nd m h).parent=some p){i:Nat}(hi:has m i=true) :
  (un1 T m pos h p).sl (pos i)={ T.sl (pos i)with first:=if i=p/\ag_ m h=none then hdO T pos (ap_ m h) else(T.sl (pos i)).first,next:=if ag_ m h=some i then hdO T pos (ap_ m h) else(T.sl (pos i)).next }:=by
 obtain⟨h1,h2,h3,h4⟩:=dc_ F hh hp;unfold un1
 cases hps:ag_ m h with
 |none=>
  dsimp only;rw[bP_ F (a9_.refl T) hi h4]
  by_cases e:i=p<;>simp[e]
 |some a=>
  dsimp only;rw[bP_ F (a9_.refl T) hi (h1 a hps).1]
  by_cases e:i=a
  ·simp[e]
  ·have e':¬a=i:=fun h=>e h.symm
   simp[e,e']
theorem nJ_(F:Fits T m pos){h p:Nat}(hh:has m h=true)(hp:(nd m h).parent=some p){T1:am_}(L:a9_ T T1){i:Nat}(hi:has m i=true) :
  (un2 T T1 m pos h p).sl (pos i)={ T1.sl (pos i)with last:=if i=p/\ap_ m h=none then hdO T pos (ag_ m h) else(T1.sl (pos i)).last,prev:=if ap_ m h=some i then hdO T pos (ag_ m h) else(T1.sl (pos i)).prev }:=by
 obtain⟨h1,h2,h3,h4⟩:=dc_ F hh hp;unfold un2
 cases hps:ap_ m h with
 |none=>
  dsimp only;rw[bP_ F L hi h4]
  by_cases e:i=p<;>simp[e]
 |some a=>
  dsimp only;rw[bP_ F L hi (h2 a hps).1]
  by_cases e:i=a
  ·simp[e]
  ·have e':¬a=i:=fun h=>e h.symm
   simp[e,e']
theorem un3_sl(F:Fits T m pos){h:Nat}(hh:has m h=true){T1:am_}(L:a9_ T T1){i:Nat}(hi:has m i=true) :
  (un3 T1 (pos h)).sl (pos i)=if i=h then { T1.sl (pos i)with parent:=0,prev:=0,next:=0 } else T1.sl (pos i):=by
 unfold un3;have L1:=L.trans (a9_.modS T1 (pos h) (f:=fun r=>{ r with parent:=0 }) (fun r=>rfl));have L2:=L1.trans (a9_.modS _ (pos h) (f:=fun r=>{ r with prev:=0 }) (fun r=>rfl));rw[bP_ F L2 hi hh,bP_ F L1 hi hh,bP_ F L hi hh]
 by_cases e:i=h<;>simp[e]
theorem gU_(F:Fits T m pos){h p:Nat}(hh:has m h=true)(hp:(nd m h).parent=some p) :
  mt_ T (un3 (un2 T (un1 T m pos h p) m pos h p) (pos h)) m pos h p:=by
 obtain⟨h1,h2,h3,h4⟩:=dc_ F hh hp;have L1:=a9_.un1 T m pos h p;have L2:=L1.trans (a9_.un2 T (un1 T m pos h p) m pos h p);have L:=L2.trans (a9_.un3 (un2 T (un1 T m pos h p) m pos h p) (pos h));have hsl:∀i,has m i=true->(un3 (un2 T (un1 T m pos h p) m pos h p) (pos h)).sl (pos i)=if i=h then { (un2 T (un1 T m pos h p) m pos h p).sl (pos i)with parent:=0,prev:=0,next:=0 } else(un2 T (un1 T m pos h p) m pos h p).sl (pos i):=fun i hi=>un3_sl F hh L2 hi
 have hs2:=fun i (hi:has m i=true)=>nJ_ F hh hp L1 hi;have hs1:=fun i (hi:has m i=true)=>nK_ F hh hp hi;refine⟨L.bs,L.st,L.len,L.frees,L.live,L.root,L.used,fun i hi=>?_,fun i hi=>?_,fun i hi=>?_,fun i hi=>?_,fun i hi=>?_,fun i hi=>?_⟩
 ·rw[hsl i hi,hs2 i hi,hs1 i hi];split<;>simp
 ·rw[hsl i hi,hs2 i hi,hs1 i hi];split<;>simp_all
 ·rw[hsl i hi,hs2 i hi,hs1 i hi];split<;>simp_all
 ·rw[hsl i hi,hs2 i hi,hs1 i hi];split<;>simp_all
 ·rw[hsl i hi,hs2 i hi,hs1 i hi];split<;>simp_all
 ·rw[hsl i hi,hs2 i hi,hs1 i hi];split<;>simp_all
end
end A
end
section
open Go.RowKit Go.Sort
namespace A
open H G
theorem k7_{w2 w3:World}(b:Below ((w2.alloc (.cells #[.int .i64 0,.int .i64 0,.int .i64 0,.int .i64 0,.int .i64 0,.int .i64 0,.string ⟨#[]⟩,.string ⟨#[]⟩,.bool false,.int .i64 0,.int .i64 0] 73)).drew).heap.size ((w2.alloc (.cells #[.int .i64 0,.int .i64 0,.int .i64 0,.int .i64 0,.int .i64 0,.int .i64 0,.string ⟨#[]⟩,.string ⟨#[]⟩,.bool false,.int .i64 0,.int .i64 0] 73)).drew) w3):Blk w2.heap.size #[.int .i64 0,.int .i64 0,.int .i64 0,.int .i64 0,.int .i64 0,.int .i64 0,.string ⟨#[]⟩,.string ⟨#[]⟩,.bool false,.int .i64 0,.int .i64 0] 73 w3:=by
 have h:Blk w2.heap.size #[.int .i64 0,.int .i64 0,.int .i64 0,.int .i64 0,.int .i64 0,.int .i64 0,.string ⟨#[]⟩,.string ⟨#[]⟩,.bool false,.int .i64 0,.int .i64 0] 73 (w2.alloc (.cells #[.int .i64 0,.int .i64 0,.int .i64 0,.int .i64 0,.int .i64 0,.int .i64 0,.string ⟨#[]⟩,.string ⟨#[]⟩,.bool false,.int .i64 0,.int .i64 0] 73)).drew:=Blk.new w2 #[.int .i64 0,.int .i64 0,.int .i64 0,.int .i64 0,.int .i64 0,.int .i64 0,.string ⟨#[]⟩,.string ⟨#[]⟩,.bool false,.int .i64 0,.int .i64 0] 73;exact h.below b
theorem al_.beside{w w':World}{T:am_}(h:al_ w T){b:Nat}{cs:Array Value}{t:TypeId}(hb:Blk b cs t w)(f:H.Frame (fun k=>k=b) w w')(h1:92≠t)(h2:210≠t)(h3:3≠t)(h4:142≠t):al_ w' T:=
 ⟨h.blk.frame f (fun e=>h1 (by have e:T.tb=b:=e;have h5:=h.blk;rw[e]at h5;exact bM_ h5 hb)),ah_ h.row f (fun g hg e=>ak_ h.row hb h2 (by rw[hg];exact congrArg some e)),h.few,h.bb,ah_ h.free f (fun g hg e=>ak_ h.free hb h3 (by rw[hg];exact congrArg some e)),fun r hr=>ah_ (h.attrs r hr) f (fun g hg e=>ak_ (h.attrs r hr) hb h4 (by rw[hg];exact congrArg some e))⟩
theorem al_.links{w:World}{T:am_}(h:al_ w T){s:Nat}(hs:s<T.slots.length) :
  w.cell? ⟨T.g,s*10+1,none⟩=some (.int .i64 ((T.sl s).kind:Nat))/\w.cell? ⟨T.g,s*10+5,none⟩=some (.int .i64 (T.sl s).parent)/\w.cell? ⟨T.g,s*10+6,none⟩=some (.int .i64 (T.sl s).first)/\w.cell? ⟨T.g,s*10+7,none⟩=some (.int .i64 (T.sl s).last)/\w.cell? ⟨T.g,s*10+8,none⟩=some (.int .i64 (T.sl s).prev)/\w.cell? ⟨T.g,s*10+9,none⟩=some (.int .i64 (T.sl s).next):=
 ⟨(h.cell hs (k:=1) (by omega)).1,(h.cell hs (k:=5) (by omega)).1,(h.cell hs (k:=6) (by omega)).1,(h.cell hs (k:=7) (by omega)).1,(h.cell hs (k:=8) (by omega)).1,(h.cell hs (k:=9) (by omega)).1⟩
theorem frG{g:Nat}{w w':World}(h:H.Frame (fun k=>k=g) w w')(o:Nat)(v:Value):H.Frame (fun k=>k=g) w (w'.setCell ⟨g,o,none⟩ v):=h.set (Or.inl rfl) o v
theorem mA_{T:am_}{m:aa_}{pos:Nat->Nat}(F:Fits T m pos){h p:Nat}(hh:has m h=true)(hp:(nd m h).parent=some p):(un1 T m pos h p).sl (pos h)=T.sl (pos h):=by
 obtain⟨h1,h2,h3,h4⟩:=dc_ F hh hp;rw[nK_ F hh hp hh];have e1:¬(h=p/\ag_ m h=none):=fun e=>h3 e.1;have e2:¬ag_ m h=some h:=fun e=>(h1 h e).2.1 rfl;rw[if_neg e1,if_neg e2]
theorem mz_{T:am_}{m:aa_}{pos:Nat->Nat}(F:Fits T m pos){h p:Nat}(hh:has m h=true)(hp:(nd m h).parent=some p){T1:am_}(L:a9_ T T1):(un2 T T1 m pos h p).sl (pos h)=T1.sl (pos h):=by
 obtain⟨h1,h2,h3,h4⟩:=dc_ F hh hp;rw[nJ_ F hh hp L hh];have e1:¬(h=p/\ap_ m h=none):=fun e=>h3 e.1;have e2:¬ap_ m h=some h:=fun e=>(h2 h e).2.1 rfl;rw[if_neg e1,if_neg e2]
theorem al_.free_{w:World}{T:am_}(h:al_ w T){s:Nat}(hs:s<T.slots.length){k:Nat}(hk:k<10):w.frozen? ⟨T.g,s*10+k,none⟩=false:=(h.cell hs hk).2
theorem kK_(T:am_)(m:aa_)(pos:Nat->Nat)(h p:Nat)(w:World)(hT:aj_ w T m pos)(hh:has m h=true)(hp:(nd m h).parent=some p) :
  Calls Tryz.prog 117 #[.pointer (some ⟨T.tb,0,none⟩),.int .i64 (hd T pos h)] w fun e w'=>∃T',e=.returned (.agg (aB_ T pos (bU_ m h p)).toArray)/\H.Frame (fun k=>k=T.g) w w'/\a9_ T T'/\aj_ w' T' (cut m h p) pos:=by
 have hF:=hT.fits;have hfew:=hT.mem.few;obtain⟨hps,hns,hne,hph⟩:=dc_ hF hh hp;have HT:=hi_ hT;have HPs:=hi_ hps;have HNs:=hi_ hns;have HC:=hi_ (gU_ hF hh hp);have HFin:=hi_ (fun T' (C:mt_ T T' m pos h p)=>hF.cut hh hp C);have QA:=hi_ (fun(y:Nat) (hy:has m y=true) (T1:am_) (L:a9_ T T1) W (hW:al_ W T1)=>(by
  have h1:=at_ T1 (hd T pos y) W hW (by have:=aP_ (T:=T) (pos:=pos) y;omega) (by have:=bA_ hfew hF hy;omega);rw[L.ptr,bH_ hfew hF hy 1,L.tb]at h1;exact h1:Calls Tryz.prog 83 #[.pointer (some ⟨T.tb,0,none⟩),.int .i64 (hd T pos y)] W fun e w'=>e=.returned (.pointer (some ⟨T.g,pos y*10+1,none⟩))/\Below W.heap.size W w'))
 have QI:=hi_ (fun W (hb:Below w.heap.size w W)=>dY_ T m pos h p W (hT.below hb) hh hp);have L1:=hi_ (a9_.un1 T m pos h p);have S0:=hi_ (hF.lt h hh);have S1:=hi_ (hF.lt p hph);have e5:(T.sl (pos h)).parent=hd T pos p:=by rw[hF.parent h hh,hp];rfl
 have e8:(T.sl (pos h)).prev=hdO T pos (ag_ m h):=hF.prev h hh;have e9:(T.sl (pos h)).next=hdO T pos (ap_ m h):=hF.next h hh;have E5:=hi_ e5;have E8:=hi_ e8;have E9:=hi_ e9;have hB1:=(Below.refl w.heap.size w).alloc (nl_) (.cells #[.int .i64 0,.int .i64 0,.int .i64 0,.int .i64 0,.int .i64 0,.int .i64 0,.string ⟨#[]⟩,.string ⟨#[]⟩,.bool false,.int .i64 0,.int .i64 0] 73);have HB1:=hi_ hB1;have HR1:=hi_ (Blk.new w #[.int .i64 0,.int .i64 0,.int .i64 0,.int .i64 0,.int .i64 0,.int .i64 0,.string ⟨#[]⟩,.string ⟨#[]⟩,.bool false,.int .i64 0,.int .i64 0] 73);have Q1:=hi_ (QA.out h hh T (a9_.refl T) _ (hT.below hB1).mem);have HH:=hi_ hh;have HPh:=hi_ hph;have HNe:=hi_ hne;have HPp:=hi_ hp;clear hT hp hps hns hne e5 e8 e9 hB1
 go_enter Tryz.func117,Tryz.ntmps117
 go_wp2_with fail
 refine Q1.out.mono ?_;rintro e w2 ⟨rfl,hb2⟩;have HB2:=bt_ HB1 hb2;have HR2:=hi_ (HR1.out.below hb2);clear hb2 Q1 HB1 HR1;have hT2:=HT.out.below HB2.out;obtain⟨c1,c5,c6,c7,c8,c9⟩:=hT2.mem.links S0.out;rw[E5.out]at c5;rw[E8.out]at c8;rw[E9.out]at c9;clear c1 c6 c7 hT2;go_upto_region 2 with fail
 generalize hix:(nd m p).kids.idxOf h=ix at QI;have HIX:=hi_ hix;clear hix
 go_cut [6] (fun s6 wx=>∃A,s6=.pointer (some ⟨A,0,none⟩)/\w.heap.size<A/\Hid (Blk A #[.int .i64 2,.int .i64 (hd T pos p),.int .i64 (hd T pos h),.int .i64 (hdO T pos (ag_ m h)),.int .i64 (hdO T pos (ap_ m h)),.int .i64 ix,.string ⟨#[]⟩,.string ⟨#[]⟩,.bool false,.int .i64 0,.int .i64 0] 73 wx)/\Hid (Below w.heap.size w wx)/\Hid (Blk w.heap.size #[.int .i64 0,.int .i64 0,.int .i64 0,.int .i64 0,.int .i64 0,.int .i64 0,.string ⟨#[]⟩,.string ⟨#[]⟩,.bool false,.int .i64 0,.int .i64 0] 73 wx))
 case first=>
  have HZ2:=hi_ HB2.out.size;have HSS:Hid (∀w',Below w.heap.size w w'->Below w.heap.size w w'/\w'.cell? ⟨T.g,pos h*10+5,none⟩=some (.int .i64 (hd T pos p))/\w'.cell? ⟨T.g,pos h*10+8,none⟩=some (.int .i64 (hdO T pos (ag_ m h)))/\w'.cell? ⟨T.g,pos h*10+9,none⟩=some (.int .i64 (hdO T pos (ap_ m h)))):=hi_ (fun w' hB=>by
   obtain⟨d1,d5,d6,d7,d8,d9⟩:=(HT.out.below hB).mem.links S0.out;rw[E5.out]at d5;rw[E8.out]at d8;rw[E9.out]at d9;exact⟨hB,d5,d8,d9⟩)
  have QJ:Hid (∀W,(Below w.heap.size w W/\W.cell? ⟨T.g,pos h*10+5,none⟩=some (.int .i64 (hd T pos p))/\W.cell? ⟨T.g,pos h*10+8,none⟩=some (.int .i64 (hdO T pos (ag_ m h)))/\W.cell? ⟨T.g,pos h*10+9,none⟩=some (.int .i64 (hdO T pos (ap_ m h))))->Calls Tryz.prog 87 #[.pointer (some ⟨T.tb,0,none⟩),.int .i64 (hd T pos h)] W fun e w'=>e=.returned (.int .i64 ix)/\Below W.heap.size W w'/\Below w.heap.size w w'/\w'.cell? ⟨T.g,pos h*10+5,none⟩=some (.int .i64 (hd T pos p))/\w'.cell? ⟨T.g,pos h*10+8,none⟩=some (.int .i64 (hdO T pos (ag_ m h)))/\w'.cell? ⟨T.g,pos h*10+9,none⟩=some (.int .i64 (hdO T pos (ap_ m h)))):=hi_ (fun W hW=>(QI.out W hW.1).mono (fun e w' he=>⟨he.1,he.2,HSS.out w' (hW.1.trans (he.2.mono hW.1.size))⟩));have HBd:=hi_ HB2.out.drew
  have HBx:=hi_ (show Below w.heap.size w (w2.alloc (.cells #[.int .i64 0,.int .i64 0,.int .i64 0,.int .i64 0,.int .i64 0,.int .i64 0,.string ⟨#[]⟩,.string ⟨#[]⟩,.bool false,.int .i64 0,.int .i64 0] 73)).drew from (HB2.out.alloc HB2.out.size _).drew);clear QI c5 c8 c9
  go_region_held3 (fun w'=>Below w.heap.size w w'/\w'.cell? ⟨T.g,pos h*10+5,none⟩=some (.int .i64 (hd T pos p))/\w'.cell? ⟨T.g,pos h*10+8,none⟩=some (.int .i64 (hdO T pos (ag_ m h)))/\w'.cell? ⟨T.g,pos h*10+9,none⟩=some (.int .i64 (hdO T pos (ap_ m h)))) (first|with_reducible assumption|with_reducible exact HSS.out _ (HS3.out.alloc HS3.out.size _)|with_reducible exact HSS.out _ (a0_ (a0_ (a0_ (a0_ (a0_ (a0_ (a0_ (a0_ (a0_ (a0_ (a0_ HS3.out HZ2.out) HZ2.out) HZ2.out) HZ2.out) HZ2.out) HZ2.out) HZ2.out) HZ2.out) HZ2.out) HZ2.out) HZ2.out)|with_reducible exact HSS.out _ HBd.out|with_reducible exact HSS.out _ HBx.out)
   (first|(go_at_call 87;refine(QJ.out _ (by with_reducible assumption)).mono ?_;rintro e w3 ⟨rfl,b3,hS3⟩;have HS3:=hi_ hS3.1;have HR3:=hi_ (fun(hx:Blk w.heap.size #[.int .i64 0,.int .i64 0,.int .i64 0,.int .i64 0,.int .i64 0,.int .i64 0,.string ⟨#[]⟩,.string ⟨#[]⟩,.bool false,.int .i64 0,.int .i64 0] 73 _)=>hx.below b3);(try (have hz:=k7_ b3;obtain⟨⟨k0,k1,k2,k3,k4,k5,k6,k7,k8,k9,k10⟩,⟨f0,f1,f2,f3,f4,f5,f6,f7,f8,f9,f10⟩⟩:=bm_ hz;have HZ:=hi_ hz;clear hz));clear b3))
  ·have hr3:Blk w.heap.size #[.int .i64 0,.int .i64 0,.int .i64 0,.int .i64 0,.int .i64 0,.int .i64 0,.string ⟨#[]⟩,.string ⟨#[]⟩,.bool false,.int .i64 0,.int .i64 0] 73 w3:=HR3.out HR2.out
   have hlt:=hr3.lt;go_wp2_with fail
   go_meet
   exact⟨_,rfl,hlt,hi_ (Blk.new w3 _ _),hi_ (HS3.out.alloc HS3.out.size _),hi_ (hr3.alloc _)⟩
  ·have hr3:Blk w.heap.size #[.int .i64 0,.int .i64 0,.int .i64 0,.int .i64 0,.int .i64 0,.int .i64 0,.string ⟨#[]⟩,.string ⟨#[]⟩,.bool false,.int .i64 0,.int .i64 0] 73 w3:=HR3.out (HR2.out.alloc _)
   have hlt:=HR2.out.lt;go_wp2_with fail
   go_meet
   exact⟨_,rfl,hlt,hi_ (Blk.set11 HZ.out _ _ _ _ _ _ _ _ _ _ _),hi_ (ej_ HS3.out HZ2.out _ _ _ _ _ _ _ _ _ _ _),hi_ (Blk.far11 hr3 (Nat.ne_of_lt hlt) _ _ _ _ _ _ _ _ _ _ _)⟩
 case rest=>
  obtain⟨A,rfl,hA,HRA,HB3,HR3⟩:=hcut;clear HB2 HR2;have hT3:=HT.out.below HB3.out;obtain⟨_,c5,_,_,_,_⟩:=hT3.mem.links S0.out;rw[E5.out]at c5;have Q2:=hi_ (QA.out p HPh.out T (a9_.refl T) _ hT3.mem);clear hT3;go_wp2_with fail
  refine Q2.out.mono ?_;rintro e w4 ⟨rfl,hb4⟩;have HB4:=bt_ HB3 hb4;have HRA4:=hi_ (HRA.out.below hb4);have HR4:=hi_ (HR3.out.below hb4);clear hb4 Q2 HB3 HRA HR3 c5;have hT4:=HT.out.below HB4.out;obtain⟨_,c5,_,_,c8,c9⟩:=hT4.mem.links S0.out;rw[E8.out]at c8;rw[E9.out]at c9;have HT4:=hi_ hT4.mem;clear c5 hT4
  go_upto_if 38 with fail
  go_cut [] (fun wx=>Hid (al_ wx (un1 T m pos h p))/\Hid (H.Frame (fun k=>k=T.g) w wx)/\Hid (Blk A #[.int .i64 2,.int .i64 (hd T pos p),.int .i64 (hd T pos h),.int .i64 (hdO T pos (ag_ m h)),.int .i64 (hdO T pos (ap_ m h)),.int .i64 ix,.string ⟨#[]⟩,.string ⟨#[]⟩,.bool false,.int .i64 0,.int .i64 0] 73 wx)/\Hid (Blk w.heap.size #[.int .i64 0,.int .i64 0,.int .i64 0,.int .i64 0,.int .i64 0,.int .i64 0,.string ⟨#[]⟩,.string ⟨#[]⟩,.bool false,.int .i64 0,.int .i64 0] 73 wx))
  case first=>
   cases hps:ag_ m h with
   |none=>
    rw[hps]at c8;have k8:w4.cell? ⟨T.g,pos h*10+8,none⟩=some (.int .i64 0):=c8;have k6:=(HT4.out.cell S1.out (k:=6) (by omega)).1;have f6:=HT4.out.free_ S1.out (k:=6) (by omega);have k6':w4.cell? ⟨T.g,pos p*10+6,none⟩=some (.int .i64 (T.sl (pos p)).first):=k6;have hst:=HT4.out.store S1.out (k:=6) (by omega) (.int .i64 (hdO T pos (ap_ m h))) (fun r=>{ r with first:=hdO T pos (ap_ m h) }) rfl (fun r=>⟨rfl,rfl⟩);have hun:un1 T m pos h p=T.modS (pos p) fun r=>{ r with first:=hdO T pos (ap_ m h) }:=by unfold un1;rw[hps]
    have HST:=hi_ hst;have HUN:=hi_ hun;have hg1:A≠T.g:=fun e=>ak_ HT4.out.row HRA4.out (by decide) (by rw[e];rfl);have hg2:w.heap.size≠T.g:=fun e=>ak_ HT4.out.row HR4.out (by decide) (by rw[e];rfl);have HG1:=hi_ hg1;have HG2:=hi_ hg2;clear c8 k6 hst hun hg1 hg2 hps;go_wp2_with fail
    go_meet
    refine⟨hi_ ?_,hi_ (frG (H.Frame.of HB4.out) _ _),hi_ (HRA4.out.far HG1.out _ _),hi_ (HR4.out.far HG2.out _ _)⟩;rw[HUN.out];exact HST.out
   |some a=>
    obtain⟨ha1,ha2,ha3,ha4⟩:=HPs.out a hps;rw[hps]at c8;have k8:w4.cell? ⟨T.g,pos h*10+8,none⟩=some (.int .i64 (hd T pos a)):=c8;have hne1:¬hd T pos a=0:=by have:=aP_ (T:=T) (pos:=pos) a;omega
    have hne0:(hd T pos a==0)=false:=bn_ hne1;have hne2:(hdO T pos (some a) != 0)=true:=bne_iff_ne.2 hne1;have hne3:¬hdO T pos (some a)=0:=hne1;have hne4:(hdO T pos (some a)==0)=false:=hne0;have S2:=hi_ (hF.lt a ha1);have hlg4:=(ae_ HT4.out.row).1;have D8:=lc_ k8 hlg4;have D9:=lc_ c9 hlg4;have QAa:=hi_ (fun(d:Later w4.heap.size w4)=>QA.out a ha1 T (a9_.refl T) d.w (HT4.out.below d.h));have HUN:Hid (un1 T m pos h p=T.modS (pos a) fun r=>{ r with next:=hdO T pos (ap_ m h) }):=hi_ (by unfold un1;rw[hps]);clear c8 ha1 ha2 ha3 ha4 hps;go_wp2_with fail
    refine aQ_ 10 (by kernel_rfl) (by kernel_rfl) ?_;simp only[List.take_succ_cons,List.take_zero,List.drop_succ_cons,List.drop_zero];repeat (go_big_quiet_step ((go_at_call 83;exact Calls.later (QAa.out _))))
    refine wq_ (fun dq=>?_);have hT5:=HT4.out.below dq.h;have k9:dq.w.cell? ⟨T.g,pos a*10+9,none⟩=some (.int .i64 (T.sl (pos a)).next):=(hT5.cell S2.out (k:=9) (by omega)).1;have f9:=hT5.free_ S2.out (k:=9) (by omega);have HST:=hi_ (hT5.store S2.out (k:=9) (by omega) (.int .i64 (hdO T pos (ap_ m h))) (fun r=>{ r with next:=hdO T pos (ap_ m h) }) rfl (fun r=>⟨rfl,rfl⟩));have HG1:=hi_ (fun e=>ak_ HT4.out.row HRA4.out (by decide) (by rw[e];rfl):A≠T.g);have HG2:=hi_ (fun e=>ak_ HT4.out.row HR4.out (by decide) (by rw[e];rfl):w.heap.size≠T.g);have HB5:=bt_ HB4 dq.h;have HRA5:=hi_ (HRA4.out.below dq.h);have HR5:=hi_ (HR4.out.below dq.h);clear D8 D9 k8 c9 hlg4 hT5;go_wp2_with fail
    go_meet
    refine⟨hi_ ?_,hi_ (frG (H.Frame.of HB5.out) _ _),hi_ (HRA5.out.far HG1.out _ _),hi_ (HR5.out.far HG2.out _ _)⟩;rw[HUN.out];exact HST.out
  case rest=>
   obtain⟨HM1,HF1,HRA1,HR1⟩:=hcut;clear HB4 HRA4 HR4 HT4 c8 c9;have HS1:=hi_ (mA_ hF HH.out HPp.out);have HUn2:=hi_ (fun(T1:am_) (L:a9_ T T1)=>mz_ hF HH.out HPp.out L);obtain⟨T1,hT1⟩:∃T1,T1=un1 T m pos h p:=⟨_,rfl⟩;rw[<-hT1]at HM1 HC L1 HS1;have S01:=hi_ (show pos h<T1.slots.length by rw[L1.out.len];exact S0.out);have S11:=hi_ (show pos p<T1.slots.length by rw[L1.out.len];exact S1.out);obtain⟨_,_,_,_,c8,c9⟩:=HM1.out.links S01.out;rw[HS1.out,L1.out.g]at c8 c9;rw[E8.out]at c8;rw[E9.out]at c9;clear hT1
   go_upto_if 62 with fail
   go_cut [] (fun wx=>Hid (al_ wx (un2 T T1 m pos h p))/\Hid (H.Frame (fun k=>k=T.g) w wx)/\Hid (Blk A #[.int .i64 2,.int .i64 (hd T pos p),.int .i64 (hd T pos h),.int .i64 (hdO T pos (ag_ m h)),.int .i64 (hdO T pos (ap_ m h)),.int .i64 ix,.string ⟨#[]⟩,.string ⟨#[]⟩,.bool false,.int .i64 0,.int .i64 0] 73 wx)/\Hid (Blk w.heap.size #[.int .i64 0,.int .i64 0,.int .i64 0,.int .i64 0,.int .i64 0,.int .i64 0,.string ⟨#[]⟩,.string ⟨#[]⟩,.bool false,.int .i64 0,.int .i64 0] 73 wx))
   case first=>
    have HG1:=hi_ (fun e=>ak_ HM1.out.row HRA1.out (by decide) (by rw[e,<-L1.out.g];rfl):A≠T.g);have HG2:=hi_ (fun e=>ak_ HM1.out.row HR1.out (by decide) (by rw[e,<-L1.out.g];rfl):w.heap.size≠T.g)
    cases hns:ap_ m h with
    |none=>
     rw[hns]at c9;have k9:=c9;have k9':_=some (Value.int .i64 0):=c9;have k7:=(HM1.out.cell S11.out (k:=7) (by omega)).1;have f7:=HM1.out.free_ S11.out (k:=7) (by omega);rw[L1.out.g]at k7 f7;have HST:=hi_ (HM1.out.store S11.out (k:=7) (by omega) (.int .i64 (hdO T pos (ag_ m h))) (fun r=>{ r with last:=hdO T pos (ag_ m h) }) rfl (fun r=>⟨rfl,rfl⟩));rw[L1.out.g]at HST;have HUN:Hid (un2 T T1 m pos h p=T1.modS (pos p) fun r=>{ r with last:=hdO T pos (ag_ m h) }):=hi_ (by unfold un2;rw[hns]);have k7':_=some (Value.int .i64 (T1.sl (pos p)).last):=k7;have z1:(hdO T pos none != 0)=false:=rfl;have z2:(hdO T pos none==0)=true:=rfl;have z3:hdO T pos none=0:=rfl;clear c9 k7 hns;go_wp2_with fail
     go_meet
     refine⟨hi_ ?_,hi_ (frG HF1.out _ _),hi_ (HRA1.out.far HG1.out _ _),hi_ (HR1.out.far HG2.out _ _)⟩;rw[HUN.out];exact HST.out
    |some b=>
     obtain⟨hb1,hb2,hb3⟩:=HNs.out b hns;rw[hns]at c9;have hne1:¬hd T pos b=0:=by have:=aP_ (T:=T) (pos:=pos) b;omega
     have hne0:(hd T pos b==0)=false:=bn_ hne1;have hne2:(hdO T pos (some b) != 0)=true:=bne_iff_ne.2 hne1;have hne3:¬hdO T pos (some b)=0:=hne1;have hne4:(hdO T pos (some b)==0)=false:=hne0;have S2:=hi_ (show pos b<T1.slots.length by rw[L1.out.len];exact hF.lt b hb1);have hlg1:=(ae_ HM1.out.row).1;rw[L1.out.g]at hlg1;have D8:=lc_ c8 hlg1;have D9:=lc_ c9 hlg1;have QAb:=hi_ (fun(d:Later wc.heap.size wc)=>QA.out b hb1 T1 L1.out d.w (HM1.out.below d.h));have HUN:Hid (un2 T T1 m pos h p=T1.modS (pos b) fun r=>{ r with prev:=hdO T pos (ag_ m h) }):=hi_ (by unfold un2;rw[hns]);clear hb1 hb2 hb3 hns;go_wp2_with fail
     refine aQ_ 10 (by kernel_rfl) (by kernel_rfl) ?_;simp only[List.take_succ_cons,List.take_zero,List.drop_succ_cons,List.drop_zero];repeat (go_big_quiet_step ((go_at_call 83;exact Calls.later (QAb.out _))))
     refine wq_ (fun dq=>?_);have hT5:=HM1.out.below dq.h;have k8:=(hT5.cell S2.out (k:=8) (by omega)).1;have f8:=hT5.free_ S2.out (k:=8) (by omega);rw[L1.out.g]at k8 f8;have k8':_=some (Value.int .i64 (T1.sl (pos b)).prev):=k8;have HST:=hi_ (hT5.store S2.out (k:=8) (by omega) (.int .i64 (hdO T pos (ag_ m h))) (fun r=>{ r with prev:=hdO T pos (ag_ m h) }) rfl (fun r=>⟨rfl,rfl⟩));rw[L1.out.g]at HST;have HB5:=hi_ (HF1.out.below_ dq.h);have HRA5:=hi_ (HRA1.out.below dq.h);have HR5:=hi_ (HR1.out.below dq.h);clear D8 D9 c8 c9 hlg1 hT5 k8;go_wp2_with fail
     go_meet
     refine⟨hi_ ?_,hi_ (frG HB5.out _ _),hi_ (HRA5.out.far HG1.out _ _),hi_ (HR5.out.far HG2.out _ _)⟩;rw[HUN.out];exact HST.out
   case rest=>
    obtain⟨HM2,HF2,HRA2,HR2⟩:=hcut;clear HF1 HRA1 HR1 HM1 c8 c9;have L2:=hi_ (L1.out.trans (a9_.un2 T T1 m pos h p));obtain⟨T2,hT2⟩:∃T2,T2=un2 T T1 m pos h p:=⟨_,rfl⟩;rw[<-hT2]at HM2 HC L2;have S02:=hi_ (show pos h<T2.slots.length by rw[L2.out.len];exact S0.out);have hl1:=cY_ T2 (pos h) (fun r=>{ r with parent:=0 });have hl2:=cY_ (T2.modS (pos h) (fun r=>{ r with parent:=0 })) (pos h) (fun r=>{ r with prev:=0 });have HST1:=hi_ (HM2.out.store S02.out (k:=5) (by omega) (.int .i64 0) (fun r=>{ r with parent:=0 }) rfl (fun r=>⟨rfl,rfl⟩));have HST2:=hi_ (HST1.out.store (s:=pos h) (by rw[hl1];exact S02.out) (k:=8) (by omega) (.int .i64 0) (fun r=>{ r with prev:=0 }) rfl (fun r=>⟨rfl,rfl⟩))
    have HST3:=hi_ (HST2.out.store (s:=pos h) (by rw[hl2,hl1];exact S02.out) (k:=9) (by omega) (.int .i64 0) (fun r=>{ r with next:=0 }) rfl (fun r=>⟨rfl,rfl⟩));have m5:=(HM2.out.cell S02.out (k:=5) (by omega)).1;have m8:=(HM2.out.cell S02.out (k:=8) (by omega)).1;have m9:=(HM2.out.cell S02.out (k:=9) (by omega)).1;have g5:=HM2.out.free_ S02.out (k:=5) (by omega);have g8:=HM2.out.free_ S02.out (k:=8) (by omega);have g9:=HM2.out.free_ S02.out (k:=9) (by omega);have m5':_=some (Value.int .i64 (T2.sl (pos h)).parent):=m5;have m8':_=some (Value.int .i64 (T2.sl (pos h)).prev):=m8;have m9':_=some (Value.int .i64 (T2.sl (pos h)).next):=m9;have hG1:A≠T.g:=fun e=>ak_ HM2.out.row HRA2.out (by decide) (by rw[e,<-L2.out.g];rfl)
    have hG2:w.heap.size≠T.g:=fun e=>ak_ HM2.out.row HR2.out (by decide) (by rw[e,<-L2.out.g];rfl);have eg:T2.g=T.g:=L2.out.g;have eg2:(T2.modS (pos h) (fun r=>{ r with parent:=0 })).g=T.g:=L2.out.g;have eg3:((T2.modS (pos h) (fun r=>{ r with parent:=0 })).modS (pos h) (fun r=>{ r with prev:=0 })).g=T.g:=L2.out.g;rw[eg3]at HST3;rw[eg2]at HST3;rw[eg]at m5' m8' m9' g5 g8 g9 HST3;clear m5 m8 m9 HST1 HST2 hl1 hl2 eg eg2 eg3 hT2;have HRA3:=hi_ (((HRA2.out.far hG1 (pos h*10+5) (.int .i64 0)).far hG1 (pos h*10+8) (.int .i64 0)).far hG1 (pos h*10+9) (.int .i64 0));have HR3:=hi_ (((HR2.out.far hG2 (pos h*10+5) (.int .i64 0)).far hG2 (pos h*10+8) (.int .i64 0)).far hG2 (pos h*10+9) (.int .i64 0))
    have HF3:=hi_ (frG (frG (frG HF2.out (pos h*10+5) (.int .i64 0)) (pos h*10+8) (.int .i64 0)) (pos h*10+9) (.int .i64 0));obtain⟨⟨r0,r1,r2,r3,r4,r5,r6,r7,r8,r9,r10⟩,_⟩:=bm_ HRA2.out;obtain⟨⟨k0,k1,k2,k3,k4,k5,k6,k7,k8,k9,k10⟩,⟨f0,f1,f2,f3,f4,f5,f6,f7,f8,f9,f10⟩⟩:=bm_ HR2.out;have nA1:¬T.g=A:=fun e=>hG1 e.symm;have nA2:¬T.g=w.heap.size:=fun e=>hG2 e.symm;go_wp2_with fail
    have h9:=Blk.set11 HR3.out (.int .i64 2) (.int .i64 (hd T pos p)) (.int .i64 (hd T pos h)) (.int .i64 (hdO T pos (ag_ m h))) (.int .i64 (hdO T pos (ap_ m h))) (.int .i64 ix) (.string ⟨#[]⟩) (.string ⟨#[]⟩) (.bool false) (.int .i64 0) (.int .i64 0);have hF9:=cq_ HF3.out (g:=w.heap.size) (Or.inr (nl_)) (.int .i64 2) (.int .i64 (hd T pos p)) (.int .i64 (hd T pos h)) (.int .i64 (hdO T pos (ag_ m h))) (.int .i64 (hdO T pos (ap_ m h))) (.int .i64 ix) (.string ⟨#[]⟩) (.string ⟨#[]⟩) (.bool false) (.int .i64 0) (.int .i64 0)
    have hM9:=HST3.out.beside HR3.out (cq_ (H.Frame.refl (fun k=>k=w.heap.size) _) (Or.inl rfl) (.int .i64 2) (.int .i64 (hd T pos p)) (.int .i64 (hd T pos h)) (.int .i64 (hdO T pos (ag_ m h))) (.int .i64 (hdO T pos (ap_ m h))) (.int .i64 ix) (.string ⟨#[]⟩) (.string ⟨#[]⟩) (.bool false) (.int .i64 0) (.int .i64 0)) (by decide) (by decide) (by decide) (by decide);obtain⟨⟨l0,l1,l2,l3,l4,l5,l6,l7,l8,l9,l10⟩,_⟩:=bm_ h9;change bodyPost _ _ _ _ _ (set11 (((wc.setCell ⟨T.g,pos h*10+5,none⟩ (.int .i64 0)).setCell ⟨T.g,pos h*10+8,none⟩ (.int .i64 0)).setCell ⟨T.g,pos h*10+9,none⟩ (.int .i64 0)) w.heap.size (.int .i64 2) (.int .i64 (hd T pos p)) (.int .i64 (hd T pos h)) (.int .i64 (hdO T pos (ag_ m h))) (.int .i64 (hdO T pos (ap_ m h))) (.int .i64 ix) (.string ⟨#[]⟩) (.string ⟨#[]⟩) (.bool false) (.int .i64 0) (.int .i64 0))
    generalize set11 (((wc.setCell ⟨T.g,pos h*10+5,none⟩ (.int .i64 0)).setCell ⟨T.g,pos h*10+8,none⟩ (.int .i64 0)).setCell ⟨T.g,pos h*10+9,none⟩ (.int .i64 0)) w.heap.size (.int .i64 2) (.int .i64 (hd T pos p)) (.int .i64 (hd T pos h)) (.int .i64 (hdO T pos (ag_ m h))) (.int .i64 (hdO T pos (ap_ m h))) (.int .i64 ix) (.string ⟨#[]⟩) (.string ⟨#[]⟩) (.bool false) (.int .i64 0) (.int .i64 0)=W9 at *;refine bodyPost_ret (v:=.agg #[.int .i64 2,.int .i64 (hd T pos p),.int .i64 (hd T pos h),.int .i64 (hdO T pos (ag_ m h)),.int .i64 (hdO T pos (ap_ m h)),.int .i64 ix,.string ⟨#[]⟩,.string ⟨#[]⟩,.bool false,.int .i64 0,.int .i64 0]) (by simp[results,Tryz.results117,go_sem,l0,l1,l2,l3,l4,l5,l6,l7,l8,l9,l10]) rfl ⟨un3 T2 (pos h),?_,hF9,L2.out.trans (a9_.un3 T2 (pos h)),⟨hM9,HFin.out _ HC.out⟩⟩
    have q1:ag_ m h=dF_ (nd m p).kids ((nd m p).kids.idxOf h):=by unfold ag_;rw[HPp.out];rfl
    have q2:ap_ m h=(nd m p).kids[(nd m p).kids.idxOf h+1]?:=by unfold ap_;rw[HPp.out]
    rw[q1,q2,<-HIX.out];rfl
end A
end
section
open Go.RowKit Go.Sort
namespace A
open H G
def bv_(m:aa_)(p k:Nat):Option Nat:=ag_.prevAt2 (nd m p).kids k
def cI_(m:aa_)(p k:Nat):Option Nat:=(nd m p).kids[k]?
theorem et_{T:am_}{m:aa_}{pos:Nat->Nat}(F:Fits T m pos){h p k:Nat}(hph:has m p=true)(hr:(nd m h).parent=none)(hk:k<=(nd m p).kids.length) :
  (∀a,bv_ m p k=some a->has m a=true/\a≠h/\a≠p/\cI_ m p k≠some a)/\(∀b,cI_ m p k=some b->has m b=true/\b≠h/\b≠p/\(T.sl (pos b)).prev=hdO T pos (bv_ m p k))/\(cI_ m p k=none->(T.sl (pos p)).last=hdO T pos (bv_ m p k)):=by
 have W:=F.wf;have hnd:=W.nodup p;have kne:∀x,x∈(nd m p).kids->x≠p:=fun x hx e=>by
  have:=(W.kid p x hx).2;rw[e]at this;exact W.ne_parent this rfl
 have khe:∀x,x∈(nd m p).kids->x≠h:=fun x hx e=>by
  have:=(W.kid p x hx).2;rw[e,hr]at this
  cases this
 have inj:∀{i j x:Nat},(nd m p).kids[i]?=some x->(nd m p).kids[j]?=some x->i=j:=fun {i j x} h1 h2=>by
  have hi:i<(nd m p).kids.length:=by
   rcases Nat.lt_or_ge i (nd m p).kids.length with h3|h3
   ·exact h3
   ·rw[List.getElem?_eq_none h3]at h1;cases h1
  exact(List.getElem?_inj hi hnd).1 (h1.trans h2.symm)
 unfold bv_ cI_;refine⟨fun a ha=>?_,fun b hb=>?_,fun hn=>?_⟩
 ·unfold ag_.prevAt2 at ha
  split at ha
  ·cases ha
  ·rename_i h0
   have hma:=List.mem_of_getElem? ha;refine⟨bu_ F hph hma,khe a hma,kne a hma,fun e=>?_⟩;have:=inj ha e;omega
 ·have hmb:=List.mem_of_getElem? hb
  have hbh:=bu_ F hph hmb;refine⟨hbh,khe b hmb,kne b hmb,?_⟩;rw[F.prev b hbh,dT_ W hb]
 ·have hkl:k=(nd m p).kids.length:=by
   have:=List.getElem?_eq_none_iff.1 hn;omega
  rw[F.last p hph,hkl,cN_]
def pu1(T:am_)(m:aa_)(pos:Nat->Nat)(h p k:Nat):am_:=(T.modS (pos h) fun r=>{ r with parent:=hd T pos p }).modS (pos h) fun r=>{ r with next:=hdO T pos (cI_ m p k) }
def pu2(T T1:am_)(m:aa_)(pos:Nat->Nat)(h p k:Nat):am_:=match cI_ m p k with
 |none=>(T1.modS (pos h) fun r=>{ r with prev:=hdO T pos (bv_ m p k) }).modS (pos p) fun r=>{ r with last:=hd T pos h }
 |some b=>(T1.modS (pos h) fun r=>{ r with prev:=hdO T pos (bv_ m p k) }).modS (pos b) fun r=>{ r with prev:=hd T pos h }
def pu3(T T2:am_)(m:aa_)(pos:Nat->Nat)(h p k:Nat):am_:=match bv_ m p k with
 |none=>T2.modS (pos p) fun r=>{ r with first:=hd T pos h }
 |some a=>T2.modS (pos a) fun r=>{ r with next:=hd T pos h }
theorem a9_.pu1(T:am_)(m:aa_)(pos:Nat->Nat)(h p k:Nat):a9_ T (pu1 T m pos h p k):=(a9_.modS T (pos h) (f:=fun r=>{ r with parent:=hd T pos p }) (fun r=>rfl)).trans (a9_.modS _ (pos h) (f:=fun r=>{ r with next:=hdO T pos (cI_ m p k) }) (fun r=>rfl))
theorem a9_.pu2(T T1:am_)(m:aa_)(pos:Nat->Nat)(h p k:Nat):a9_ T1 (pu2 T T1 m pos h p k):=by
 have h1:=a9_.modS T1 (pos h) (f:=fun r=>{ r with prev:=hdO T pos (bv_ m p k) }) (fun r=>rfl);unfold A.pu2
 cases cI_ m p k with
 |none=>exact h1.trans (a9_.modS _ _ (fun r=>rfl))
 |some a=>exact h1.trans (a9_.modS _ _ (fun r=>rfl))
theorem a9_.pu3(T T2:am_)(m:aa_)(pos:Nat->Nat)(h p k:Nat):a9_ T2 (pu3 T T2 m pos h p k):=by
 unfold A.pu3
 cases bv_ m p k with
 |none=>exact a9_.modS _ _ (fun r=>rfl)
 |some a=>exact a9_.modS _ _ (fun r=>rfl)
section
variable {T:am_} {m:aa_} {pos:Nat->Nat}
theorem nY_(F:Fits T m pos){h p k:Nat}(hh:has m h=true){i:Nat}(hi:has m i=true) :
  (pu1 T m pos h p k).sl (pos i)=if i=h then { T.sl (pos i)with parent:=hd T pos p,next:=hdO T pos (cI_ m p k) } else T.sl (pos i):=by
 unfold pu1;rw[bP_ F (a9_.modS T (pos h) (f:=fun r=>{ r with parent:=hd T pos p }) (fun r=>rfl)) hi hh,bP_ F (a9_.refl T) hi hh]
 by_cases e:i=h<;>simp[e]
theorem nX_(F:Fits T m pos){h p k:Nat}(hh:has m h=true)(hph:has m p=true)(hr:(nd m h).parent=none)(hk:k<=(nd m p).kids.length)(hne:h≠p){T1:am_}(L:a9_ T T1){i:Nat}(hi:has m i=true) :
  (pu2 T T1 m pos h p k).sl (pos i)={ T1.sl (pos i)with last:=if i=p/\cI_ m p k=none then hd T pos h else(T1.sl (pos i)).last,prev:=if i=h then hdO T pos (bv_ m p k)else if cI_ m p k=some i then hd T pos h else(T1.sl (pos i)).prev }:=by
 obtain⟨h1,h2,h3⟩:=et_ F hph hr hk;have L1:=L.trans (a9_.modS T1 (pos h) (f:=fun r=>{ r with prev:=hdO T pos (bv_ m p k) }) (fun r=>rfl));unfold pu2
 cases hb:cI_ m p k with
 |none=>
  dsimp only;rw[bP_ F L1 hi hph,bP_ F L hi hh]
  by_cases e:i=h
  ·subst e;simp[hne]
  ·by_cases e2:i=p<;>simp[e,e2,Ne.symm hne]
 |some b=>
  obtain⟨b1,b2,b3,b4⟩:=h2 b hb;dsimp only;rw[bP_ F L1 hi b1,bP_ F L hi hh]
  by_cases e:i=h
  ·subst e;simp[Ne.symm b2]
  ·by_cases e2:i=b
   ·simp[e,e2,b2]
   ·have e3:¬b=i:=fun x=>e2 x.symm
    simp[e,e2,e3]
theorem nW_(F:Fits T m pos){h p k:Nat}(hph:has m p=true)(hr:(nd m h).parent=none)(hk:k<=(nd m p).kids.length){T2:am_}(L:a9_ T T2){i:Nat}(hi:has m i=true) :
  (pu3 T T2 m pos h p k).sl (pos i)={ T2.sl (pos i)with first:=if i=p/\bv_ m p k=none then hd T pos h else(T2.sl (pos i)).first,next:=if bv_ m p k=some i then hd T pos h else(T2.sl (pos i)).next }:=by
 obtain⟨h1,h2,h3⟩:=et_ F hph hr hk;unfold pu3
 cases hb:bv_ m p k with
 |none=>
  dsimp only;rw[bP_ F L hi hph]
  by_cases e2:i=p<;>simp[e2]
 |some a=>
  obtain⟨b1,b2,b3,b4⟩:=h1 a hb;dsimp only;rw[bP_ F L hi b1]
  by_cases e2:i=a
  ·simp[e2]
  ·have e3:¬a=i:=fun x=>e2 x.symm
   simp[e2,e3]
theorem iG_(F:Fits T m pos){h p k:Nat}(hh:has m h=true)(hph:has m p=true)(hr:(nd m h).parent=none)(hk:k<=(nd m p).kids.length)(hne:h≠p) :
  mq_ T (pu3 T (pu2 T (pu1 T m pos h p k) m pos h p k) m pos h p k) m pos h p (ag_.prevAt2 (nd m p).kids k) (nd m p).kids[k]?:=by
 show mq_ T _ m pos h p (bv_ m p k) (cI_ m p k);obtain⟨h1,h2,h3⟩:=et_ F hph hr hk;have hbh:bv_ m p k≠some h:=fun e=>(h1 h e).2.1 rfl;have L1:=a9_.pu1 T m pos h p k;have L2:=L1.trans (a9_.pu2 T (pu1 T m pos h p k) m pos h p k);have L:=L2.trans (a9_.pu3 T (pu2 T (pu1 T m pos h p k) m pos h p k) m pos h p k);have hs3:=fun i (hi:has m i=true)=>nW_ F hph hr hk L2 hi;have hs2:=fun i (hi:has m i=true)=>nX_ F hh hph hr hk hne L1 hi;have hs1:=fun i (hi:has m i=true)=>nY_ (p:=p) (k:=k) F hh hi;refine⟨L.bs,L.st,L.len,L.frees,L.live,L.root,L.used,fun i hi=>?_,fun i hi=>?_,fun i hi=>?_,fun i hi=>?_,fun i hi=>?_,fun i hi=>?_⟩
 ·rw[hs3 i hi,hs2 i hi,hs1 i hi];by_cases e:i=h<;>simp[e]
 ·rw[hs3 i hi,hs2 i hi,hs1 i hi];by_cases e:i=h<;>simp[e]
 ·rw[hs3 i hi,hs2 i hi,hs1 i hi];by_cases e:i=h<;>simp[e]
 ·rw[hs3 i hi,hs2 i hi,hs1 i hi];by_cases e:i=h<;>simp[e]
 ·rw[hs3 i hi,hs2 i hi,hs1 i hi];by_cases e:i=h<;>simp[e]
 ·rw[hs3 i hi,hs2 i hi,hs1 i hi]
  by_cases e:i=h
  ·subst e;simp[hbh]
  ·simp[e]
end
end A
end
section
open Go.RowKit Go.Sort
namespace A
open H G
theorem link_(T:am_)(m:aa_)(pos:Nat->Nat)(h p k:Nat)(w:World)(hT:aj_ w T m pos)(hh:has m h=true)(hph:has m p=true)(hr:(nd m h).parent=none)(hk:k<=(nd m p).kids.length)(hne:h≠p)(hW:WF (put m p h k)) :
  Calls Tryz.prog 118 #[.pointer (some ⟨T.tb,0,none⟩),.int .i64 (hd T pos p),.int .i64 (hd T pos h),.int .i64 (hdO T pos (cI_ m p k))] w fun e w'=>∃T',e=.returned (.agg (aB_ T pos (dE_ m p h k)).toArray)/\H.Frame (fun k=>k=T.g) w w'/\a9_ T T'/\aj_ w' T' (put m p h k) pos:=by
 have hF:=hT.fits;have hfew:=hT.mem.few;obtain⟨hbf,haf,hlast⟩:=et_ hF hph hr hk;have HT:=hi_ hT;have HBf:=hi_ hbf;have HAf:=hi_ haf;have HLa:=hi_ hlast;have HC:=hi_ (iG_ hF hh hph hr hk hne);have HFin:=hi_ (fun T' C=>hF.put (T':=T') hh hph hr hne hk hW C);have QA:=hi_ (fun(y:Nat) (hy:has m y=true) (T1:am_) (L:a9_ T T1) W (hW:al_ W T1)=>(by
  have h1:=at_ T1 (hd T pos y) W hW (by have:=aP_ (T:=T) (pos:=pos) y;omega) (by have:=bA_ hfew hF hy;omega);rw[L.ptr,bH_ hfew hF hy 1,L.tb]at h1;exact h1:Calls Tryz.prog 83 #[.pointer (some ⟨T.tb,0,none⟩),.int .i64 (hd T pos y)] W fun e w'=>e=.returned (.pointer (some ⟨T.g,pos y*10+1,none⟩))/\Below W.heap.size W w'))
 have hput:has (put m p h k) h=true:=by rw[lS_ (aR_ hh) (aR_ hph)];exact hh
 have hpp:(nd (put m p h k) h).parent=some p:=by rw[bx_ (aR_ hh) (aR_ hph)];simp
 have hidx:(nd (put m p h k) p).kids.idxOf h=k:=by
  rw[bx_ (aR_ hh) (aR_ hph)];dsimp only;rw[if_pos rfl];exact ef_ (fun hm=>by have:=(hF.wf.kid p h hm).2;rw[hr]at this;cases this) hk
 have QI:=hi_ (fun T' (L:a9_ T T') W (hW:aj_ W T' (put m p h k) pos)=>(by
  have h1:=dY_ T' (put m p h k) pos h p W hW hput hpp;rw[hidx,L.tb,show hd T' pos h=hd T pos h by unfold hd;rw[L.bs,L.st]]at h1;exact h1:Calls Tryz.prog 87 #[.pointer (some ⟨T.tb,0,none⟩),.int .i64 (hd T pos h)] W fun e w'=>e=.returned (.int .i64 k)/\Below W.heap.size W w'))
 have L1:=hi_ (a9_.pu1 T m pos h p k);have S0:=hi_ (hF.lt h hh);have S1:=hi_ (hF.lt p hph);have hB1:=(Below.refl w.heap.size w).alloc (nl_) (.cells #[.int .i64 0,.int .i64 0,.int .i64 0,.int .i64 0,.int .i64 0,.int .i64 0,.string ⟨#[]⟩,.string ⟨#[]⟩,.bool false,.int .i64 0,.int .i64 0] 73);have HB1:=hi_ hB1;have HR1:=hi_ (Blk.new w #[.int .i64 0,.int .i64 0,.int .i64 0,.int .i64 0,.int .i64 0,.int .i64 0,.string ⟨#[]⟩,.string ⟨#[]⟩,.bool false,.int .i64 0,.int .i64 0] 73);have Q1:=hi_ (QA.out p hph T (a9_.refl T) _ (hT.below hB1).mem);have HH:=hi_ hh;have HPh:=hi_ hph;have HNe:=hi_ hne;have HRt:=hi_ hr;have HK:=hi_ hk;obtain⟨zb,hzb⟩:∃z,z=hdO T pos (cI_ m p k):=⟨_,rfl⟩;have HZb:=hi_ hzb;rw[<-hzb];clear hT hr hk hne hbf haf hlast hB1 hW hput hpp hidx hzb
 go_enter Tryz.func118,Tryz.ntmps118
 go_wp2_with fail
 refine Q1.out.mono ?_;rintro e w2 ⟨rfl,hb2⟩;have HB2:=bt_ HB1 hb2;have HR2:=hi_ (HR1.out.below hb2);have Q2:=hi_ (QA.out h HH.out T (a9_.refl T) _ (HT.out.below HB2.out).mem);clear hb2 Q1 HB1 HR1;go_wp2_with fail
 refine Q2.out.mono ?_;rintro e w3 ⟨rfl,hb3⟩;have HB3:=bt_ HB2 hb3;have HR3:=hi_ (HR2.out.below hb3);clear hb3 Q2 HB2 HR2;have HM3:=hi_ (HT.out.below HB3.out).mem;have k5:=(HM3.out.cell S0.out (k:=5) (by omega)).1;have k5':w3.cell? ⟨T.g,pos h*10+5,none⟩=some (Value.int .i64 (T.sl (pos h)).parent):=k5;have k9:=(HM3.out.cell S0.out (k:=9) (by omega)).1;have k9':w3.cell? ⟨T.g,pos h*10+9,none⟩=some (Value.int .i64 (T.sl (pos h)).next):=k9;have f5:=HM3.out.free_ S0.out (k:=5) (by omega);have f9:=HM3.out.free_ S0.out (k:=9) (by omega);have hl1:=cY_ T (pos h) (fun r=>{ r with parent:=hd T pos p });have HST1:=hi_ (HM3.out.store S0.out (k:=5) (by omega) (.int .i64 (hd T pos p)) (fun r=>{ r with parent:=hd T pos p }) rfl (fun r=>⟨rfl,rfl⟩))
 have HST2:=hi_ (HST1.out.store (s:=pos h) (by rw[hl1];exact S0.out) (k:=9) (by omega) (.int .i64 (hdO T pos (cI_ m p k))) (fun r=>{ r with next:=hdO T pos (cI_ m p k) }) rfl (fun r=>⟨rfl,rfl⟩));have hG2:w.heap.size≠T.g:=fun e=>ak_ HM3.out.row HR3.out (by decide) (by rw[e];rfl);have HG2:=hi_ hG2;rw[<-HZb.out]at HST2;have HM4:Hid (al_ ((w3.setCell ⟨T.g,pos h*10+1+4,none⟩ (.int .i64 (hd T pos p))).setCell ⟨T.g,pos h*10+1+8,none⟩ (.int .i64 zb)) (pu1 T m pos h p k)):=hi_ (by unfold pu1;rw[<-HZb.out];exact HST2.out);have HF4:Hid (H.Frame (fun k=>k=T.g) w ((w3.setCell ⟨T.g,pos h*10+1+4,none⟩ (.int .i64 (hd T pos p))).setCell ⟨T.g,pos h*10+1+8,none⟩ (.int .i64 zb))):=hi_ (frG (frG (H.Frame.of HB3.out) _ _) _ _)
 have HR4:Hid (Blk w.heap.size #[.int .i64 0,.int .i64 0,.int .i64 0,.int .i64 0,.int .i64 0,.int .i64 0,.string ⟨#[]⟩,.string ⟨#[]⟩,.bool false,.int .i64 0,.int .i64 0] 73 ((w3.setCell ⟨T.g,pos h*10+1+4,none⟩ (.int .i64 (hd T pos p))).setCell ⟨T.g,pos h*10+1+8,none⟩ (.int .i64 zb))):=hi_ ((HR3.out.far hG2 _ _).far hG2 _ _);clear k5 k9 hl1 hG2 HST1 HST2
 go_upto_if 26 with fail
 generalize (w3.setCell ⟨T.g,pos h*10+1+4,none⟩ (.int .i64 (hd T pos p))).setCell ⟨T.g,pos h*10+1+8,none⟩ (.int .i64 zb)=w4 at *;clear k5' k9' f5 f9 HM3 HR3 HB3;have hs1:=fun i (hi:has m i=true)=>nY_ (p:=p) (k:=k) hF HH.out hi;have HS1h:=hi_ (hs1 h HH.out);have HS1p:=hi_ (show(pu1 T m pos h p k).sl (pos p)=T.sl (pos p) by rw[hs1 p HPh.out,if_neg (Ne.symm HNe.out)]);have HS1b:=hi_ (fun b (hb:has m b=true) (hn:b≠h)=>(show(pu1 T m pos h p k).sl (pos b)=T.sl (pos b) by rw[hs1 b hb,if_neg hn]));obtain⟨T1,hT1⟩:∃T1,T1=pu1 T m pos h p k:=⟨_,rfl⟩;rw[<-hT1]at HM4 HC L1 HS1h HS1p HS1b;have S01:=hi_ (show pos h<T1.slots.length by rw[L1.out.len];exact S0.out);have S11:=hi_ (show pos p<T1.slots.length by rw[L1.out.len];exact S1.out);have EG:=L1.out.g
 have hlm:=cY_ T1 (pos h) (fun r=>{ r with prev:=hdO T pos (bv_ m p k) });have HLm:=hi_ hlm;have hlg4:=(ae_ HM4.out.row).1;rw[EG]at hlg4;clear hs1 hT1 hlm
 go_cut [] (fun wx=>Hid (al_ wx (pu2 T T1 m pos h p k))/\Hid (H.Frame (fun k=>k=T.g) w wx)/\Hid (Blk w.heap.size #[.int .i64 0,.int .i64 0,.int .i64 0,.int .i64 0,.int .i64 0,.int .i64 0,.string ⟨#[]⟩,.string ⟨#[]⟩,.bool false,.int .i64 0,.int .i64 0] 73 wx))
 case first=>
  have k8h:=(HM4.out.cell S01.out (k:=8) (by omega)).1;have f8h:=HM4.out.free_ S01.out (k:=8) (by omega);rw[EG]at k8h f8h;have k8h':_=some (Value.int .i64 (T1.sl (pos h)).prev):=k8h
  cases haf:cI_ m p k with
  |none=>
   have hz0:zb=0:=by rw[HZb.out,haf];rfl
   subst hz0;have k7:=(HM4.out.cell S11.out (k:=7) (by omega)).1;rw[EG,HS1p.out]at k7;have k7':_=some (Value.int .i64 (T.sl (pos p)).last):=k7;rw[HLa.out haf]at k7';have hst:=HM4.out.store S01.out (k:=8) (by omega) (.int .i64 (hdO T pos (bv_ m p k))) (fun r=>{ r with prev:=hdO T pos (bv_ m p k) }) rfl (fun r=>⟨rfl,rfl⟩);have S12:pos p<(T1.modS (pos h) fun r=>{ r with prev:=hdO T pos (bv_ m p k) }).slots.length:=by rw[HLm.out];exact S11.out
   have c7:=(hst.cell S12 (k:=7) (by omega)).1;have g7:=hst.free_ S12 (k:=7) (by omega);have HST:=hi_ (hst.store S12 (k:=7) (by omega) (.int .i64 (hd T pos h)) (fun r=>{ r with last:=hd T pos h }) rfl (fun r=>⟨rfl,rfl⟩));have HUN:Hid (pu2 T T1 m pos h p k=(T1.modS (pos h) fun r=>{ r with prev:=hdO T pos (bv_ m p k) }).modS (pos p) fun r=>{ r with last:=hd T pos h }):=hi_ (by unfold pu2;rw[haf]);have eg2:(T1.modS (pos h) fun r=>{ r with prev:=hdO T pos (bv_ m p k) }).g=T.g:=EG;rw[eg2,EG]at c7 g7 HST;have c7':_=some (Value.int .i64 ((T1.modS (pos h) fun r=>{ r with prev:=hdO T pos (bv_ m p k) }).sl (pos p)).last):=c7;have n1:¬pos p*10+7=pos h*10+8:=by omega
   have n2:¬pos h*10+8=pos p*10+7:=by omega
   clear k7 k8h hst c7 haf S12 eg2;go_wp2_with fail
   go_meet
   refine⟨hi_ ?_,hi_ (frG (frG HF4.out _ _) _ _),hi_ ((HR4.out.far HG2.out _ _).far HG2.out _ _)⟩;rw[HUN.out];exact HST.out
  |some b=>
   obtain⟨hb1,hb2,hb3,hb4⟩:=HAf.out b haf;have hzb:zb=hd T pos b:=by rw[HZb.out,haf];rfl
   subst hzb;have hne1:¬hd T pos b=0:=by have:=aP_ (T:=T) (pos:=pos) b;omega
   have hne0:(hd T pos b==0)=false:=bn_ hne1;have hne2:(hd T pos b != 0)=true:=bne_iff_ne.2 hne1;have S2:=hi_ (show pos b<T1.slots.length by rw[L1.out.len];exact hF.lt b hb1);have HUN:Hid (pu2 T T1 m pos h p k=(T1.modS (pos h) fun r=>{ r with prev:=hdO T pos (bv_ m p k) }).modS (pos b) fun r=>{ r with prev:=hd T pos h }):=hi_ (by unfold pu2;rw[haf]);have Q3:=hi_ (QA.out b hb1 T1 L1.out w4 HM4.out);have HQb:=hi_ (QA.out b hb1);have hsb:=HS1b.out b hb1 hb2;have HSb:=hi_ hsb;have HB4:=hi_ hb4;clear k8h k8h' f8h hb1 hb2 hb3 haf hb4 hsb;go_wp2_with fail
   refine Q3.out.mono ?_;rintro e w5 ⟨rfl,hb5⟩;have HM5:=hi_ (HM4.out.below hb5);have HF5:=hi_ (HF4.out.below_ hb5);have HR5:=hi_ (HR4.out.below hb5);have k8b:=(HM5.out.cell S2.out (k:=8) (by omega)).1;rw[EG,HSb.out]at k8b;have k8b':_=some (Value.int .i64 (T.sl (pos b)).prev):=k8b;rw[HB4.out]at k8b';have k8h:=(HM5.out.cell S01.out (k:=8) (by omega)).1;have f8h:=HM5.out.free_ S01.out (k:=8) (by omega);rw[EG]at k8h f8h;have k8h':_=some (Value.int .i64 (T1.sl (pos h)).prev):=k8h;have hst:=HM5.out.store S01.out (k:=8) (by omega) (.int .i64 (hdO T pos (bv_ m p k))) (fun r=>{ r with prev:=hdO T pos (bv_ m p k) }) rfl (fun r=>⟨rfl,rfl⟩);rw[EG]at hst;have HST0:=hi_ hst;have HLk:=hi_ (L1.out.trans (a9_.modS T1 (pos h) (f:=fun r=>{ r with prev:=hdO T pos (bv_ m p k) }) (fun r=>rfl)));clear k8b k8h hb5 Q3 hst
   go_wp2_with fail
   have Q4:=hi_ (HQb.out _ HLk.out _ HST0.out);refine Q4.out.mono ?_;rintro e w6 ⟨rfl,hb6⟩;have HM6:=hi_ (HST0.out.below hb6);have HF6:=hi_ ((frG HF5.out (pos h*10+8) (.int .i64 (hdO T pos (bv_ m p k)))).below_ hb6);have HR6:=hi_ ((HR5.out.far HG2.out (pos h*10+8) (.int .i64 (hdO T pos (bv_ m p k)))).below hb6);have S22:pos b<(T1.modS (pos h) fun r=>{ r with prev:=hdO T pos (bv_ m p k) }).slots.length:=by rw[HLm.out];exact S2.out
   have c8:=(HM6.out.cell S22 (k:=8) (by omega)).1;have g8:=HM6.out.free_ S22 (k:=8) (by omega);have hst:=HM6.out.store S22 (k:=8) (by omega) (.int .i64 (hd T pos h)) (fun r=>{ r with prev:=hd T pos h }) rfl (fun r=>⟨rfl,rfl⟩);have eg2:(T1.modS (pos h) fun r=>{ r with prev:=hdO T pos (bv_ m p k) }).g=T.g:=EG;rw[eg2]at c8 g8 hst;have HST:=hi_ hst;have c8':_=some (Value.int .i64 ((T1.modS (pos h) fun r=>{ r with prev:=hdO T pos (bv_ m p k) }).sl (pos b)).prev):=c8;clear c8 hst hb6 Q4 k8b' k8h' f8h eg2 S22;go_wp2_with fail
   go_meet
   refine⟨hi_ ?_,hi_ (frG HF6.out _ _),hi_ (HR6.out.far HG2.out _ _)⟩;rw[HUN.out];exact HST.out
 case rest=>
  obtain⟨HM5,HF5,HR5⟩:=hcut;clear HM4 HF4 HR4;have L2:=hi_ (L1.out.trans (a9_.pu2 T T1 m pos h p k));have HPh2:=hi_ (show((pu2 T T1 m pos h p k).sl (pos h)).prev=hdO T pos (bv_ m p k) by rw[nX_ hF HH.out HPh.out HRt.out HK.out HNe.out L1.out HH.out];dsimp only;rw[if_pos rfl]);obtain⟨T2,hT2⟩:∃T2,T2=pu2 T T1 m pos h p k:=⟨_,rfl⟩;rw[<-hT2]at HM5 HC L2 HPh2;have S02:=hi_ (show pos h<T2.slots.length by rw[L2.out.len];exact S0.out);have S12:=hi_ (show pos p<T2.slots.length by rw[L2.out.len];exact S1.out);have EG2:=L2.out.g;have k8:=(HM5.out.cell S02.out (k:=8) (by omega)).1;rw[EG2]at k8;have k8':_=some (Value.int .i64 (T2.sl (pos h)).prev):=k8;rw[HPh2.out]at k8';clear hT2 k8 EG HLm hlg4 S01 S11
  go_upto_if 57 with fail
  go_cut [] (fun wx=>Hid (al_ wx (pu3 T T2 m pos h p k))/\Hid (H.Frame (fun k=>k=T.g) w wx)/\Hid (Blk w.heap.size #[.int .i64 0,.int .i64 0,.int .i64 0,.int .i64 0,.int .i64 0,.int .i64 0,.string ⟨#[]⟩,.string ⟨#[]⟩,.bool false,.int .i64 0,.int .i64 0] 73 wx))
  case first=>
   cases hbf:bv_ m p k with
   |none=>
    rw[hbf]at k8';have k6:=(HM5.out.cell S12.out (k:=6) (by omega)).1;have f6:=HM5.out.free_ S12.out (k:=6) (by omega);have hst:=HM5.out.store S12.out (k:=6) (by omega) (.int .i64 (hd T pos h)) (fun r=>{ r with first:=hd T pos h }) rfl (fun r=>⟨rfl,rfl⟩);rw[EG2]at k6 f6 hst;have k6':_=some (Value.int .i64 (T2.sl (pos p)).first):=k6;have HST:=hi_ hst;have HUN:Hid (pu3 T T2 m pos h p k=T2.modS (pos p) fun r=>{ r with first:=hd T pos h }):=hi_ (by unfold pu3;rw[hbf]);have z1:(hdO T pos none != 0)=false:=rfl;have z2:(hdO T pos none==0)=true:=rfl;have z3:hdO T pos none=0:=rfl;clear hbf k6 hst;go_wp2_with fail
    go_meet
    refine⟨hi_ ?_,hi_ (frG HF5.out _ _),hi_ (HR5.out.far HG2.out _ _)⟩;rw[HUN.out];exact HST.out
   |some a=>
    obtain⟨ha1,ha2,ha3,ha4⟩:=HBf.out a hbf;rw[hbf]at k8';have hne1:¬hd T pos a=0:=by have:=aP_ (T:=T) (pos:=pos) a;omega
    have hne0:(hd T pos a==0)=false:=bn_ hne1;have hne2:(hdO T pos (some a) != 0)=true:=bne_iff_ne.2 hne1;have hne3:¬hdO T pos (some a)=0:=hne1;have hne4:(hdO T pos (some a)==0)=false:=hne0;have S2:=hi_ (show pos a<T2.slots.length by rw[L2.out.len];exact hF.lt a ha1);have HUN:Hid (pu3 T T2 m pos h p k=T2.modS (pos a) fun r=>{ r with next:=hd T pos h }):=hi_ (by unfold pu3;rw[hbf]);have Q3:=hi_ (QA.out a ha1 T2 L2.out _ HM5.out);clear ha1 ha2 ha3 ha4 hbf;go_wp2_with fail
    refine Q3.out.mono ?_;rintro e w6 ⟨rfl,hb6⟩;have HM6:=hi_ (HM5.out.below hb6);have HF6:=hi_ (HF5.out.below_ hb6);have HR6:=hi_ (HR5.out.below hb6);have k9:=(HM6.out.cell S2.out (k:=9) (by omega)).1;have f9:=HM6.out.free_ S2.out (k:=9) (by omega);have hst:=HM6.out.store S2.out (k:=9) (by omega) (.int .i64 (hd T pos h)) (fun r=>{ r with next:=hd T pos h }) rfl (fun r=>⟨rfl,rfl⟩);rw[EG2]at k9 f9 hst;have k9':_=some (Value.int .i64 (T2.sl (pos a)).next):=k9;have HST:=hi_ hst;clear k9 hst hb6 Q3 k8';go_wp2_with fail
    go_meet
    refine⟨hi_ ?_,hi_ (frG HF6.out _ _),hi_ (HR6.out.far HG2.out _ _)⟩;rw[HUN.out];exact HST.out
  case rest=>
   obtain⟨HM6,HF6,HR6⟩:=hcut;clear HM5 HF5 HR5 k8';have L3:=hi_ (L2.out.trans (a9_.pu3 T T2 m pos h p k));have HPh3:=hi_ (show((pu3 T T2 m pos h p k).sl (pos h)).prev=hdO T pos (bv_ m p k) by rw[nW_ hF HPh.out HRt.out HK.out L2.out HH.out];dsimp only;exact HPh2.out);obtain⟨T3,hT3⟩:∃T3,T3=pu3 T T2 m pos h p k:=⟨_,rfl⟩;rw[<-hT3]at HM6 HC L3 HPh3;have HF3:=hi_ (HFin.out _ HC.out);have S03:=hi_ (show pos h<T3.slots.length by rw[L3.out.len];exact S0.out);have EG3:=L3.out.g;have k8:=(HM6.out.cell S03.out (k:=8) (by omega)).1;have hlg:=(ae_ HM6.out.row).1;rw[EG3]at k8 hlg;have k8':_=some (Value.int .i64 (T3.sl (pos h)).prev):=k8;rw[HPh3.out]at k8';have D8:=fun d:Later wc.heap.size wc=>Later.cell k8' hlg d;have QIx:=hi_ (fun(d:Later wc.heap.size wc)=>QI.out T3 L3.out d.w ⟨HM6.out.below d.h,HF3.out⟩)
   clear hT3 k8 EG2;go_wp2_with fail
   refine aQ_ 11 (by kernel_rfl) (by kernel_rfl) ?_;simp only[List.take_succ_cons,List.take_zero,List.drop_succ_cons,List.drop_zero];repeat (go_big_quiet_step ((go_at_call 87;exact Calls.later (QIx.out _))))
   refine wq_ (fun dq=>?_);have HM7:=hi_ (HM6.out.below dq.h);have HF7:=hi_ (HF6.out.below_ dq.h);have HR7:=hi_ (HR6.out.below dq.h);obtain⟨⟨r0,r1,r2,r3,r4,r5,r6,r7,r8,r9,r10⟩,⟨f0,f1,f2,f3,f4,f5,f6,f7,f8,f9,f10⟩⟩:=bm_ HR7.out;have h9:=Blk.set11 HR7.out (.int .i64 1) (.int .i64 (hd T pos p)) (.int .i64 (hd T pos h)) (.int .i64 (hdO T pos (bv_ m p k))) (.int .i64 zb) (.int .i64 k) (.string ⟨#[]⟩) (.string ⟨#[]⟩) (.bool false) (.int .i64 0) (.int .i64 0);have hF9:=cq_ HF7.out (g:=w.heap.size) (Or.inr (nl_)) (.int .i64 1) (.int .i64 (hd T pos p)) (.int .i64 (hd T pos h)) (.int .i64 (hdO T pos (bv_ m p k))) (.int .i64 zb) (.int .i64 k) (.string ⟨#[]⟩) (.string ⟨#[]⟩) (.bool false) (.int .i64 0) (.int .i64 0)
   have hM9:=HM7.out.beside HR7.out (cq_ (H.Frame.refl (fun k=>k=w.heap.size) _) (Or.inl rfl) (.int .i64 1) (.int .i64 (hd T pos p)) (.int .i64 (hd T pos h)) (.int .i64 (hdO T pos (bv_ m p k))) (.int .i64 zb) (.int .i64 (k:Nat)) (.string ⟨#[]⟩) (.string ⟨#[]⟩) (.bool false) (.int .i64 0) (.int .i64 0)) (by decide) (by decide) (by decide) (by decide);have H9:=hi_ h9;have HF9:=hi_ hF9;have HM9:=hi_ hM9;clear D8 k8' hlg h9 hF9 hM9;go_wp2_with fail
   obtain⟨⟨l0,l1,l2,l3,l4,l5,l6,l7,l8,l9,l10⟩,_⟩:=bm_ H9.out;change bodyPost _ _ _ _ _ (set11 dq.w w.heap.size (.int .i64 1) (.int .i64 (hd T pos p)) (.int .i64 (hd T pos h)) (.int .i64 (hdO T pos (bv_ m p k))) (.int .i64 zb) (.int .i64 k) (.string ⟨#[]⟩) (.string ⟨#[]⟩) (.bool false) (.int .i64 0) (.int .i64 0));generalize set11 dq.w w.heap.size (.int .i64 1) (.int .i64 (hd T pos p)) (.int .i64 (hd T pos h)) (.int .i64 (hdO T pos (bv_ m p k))) (.int .i64 zb) (.int .i64 k) (.string ⟨#[]⟩) (.string ⟨#[]⟩) (.bool false) (.int .i64 0) (.int .i64 0)=W9 at *
   refine bodyPost_ret (v:=.agg #[.int .i64 1,.int .i64 (hd T pos p),.int .i64 (hd T pos h),.int .i64 (hdO T pos (bv_ m p k)),.int .i64 zb,.int .i64 k,.string ⟨#[]⟩,.string ⟨#[]⟩,.bool false,.int .i64 0,.int .i64 0]) (by simp[results,Tryz.results118,go_sem,l0,l1,l2,l3,l4,l5,l6,l7,l8,l9,l10]) rfl ⟨T3,?_,HF9.out,L3.out,⟨HM9.out,HF3.out⟩⟩;rw[HZb.out];rfl
theorem jG_{f:Nat->Bool}{l:List Nat}{i x:Nat}(h:l[i]?=some x):(l.drop i).all f=(f x && (l.drop (i+1)).all f):=by
 have hi:i<l.length:=by
  rcases Nat.lt_or_ge i l.length with h2|h2
  ·exact h2
  ·rw[List.getElem?_eq_none h2]at h;cases h
 rw[List.drop_eq_getElem_cons hi,List.all_cons];rw[List.getElem?_eq_getElem hi]at h;injection h with h
 rw[h]
theorem may_(T:am_)(m:aa_)(pos:Nat->Nat)(p h:Nat)(w:World)(hT:aj_ w T m pos)(hph:has m p=true)(hh:has m h=true) :
  Calls Tryz.prog 114 #[.pointer (some ⟨T.tb,0,none⟩),.int .i64 (hd T pos p),.int .i64 (hd T pos h)] w fun e w'=>e=.returned (.bool (may m p h))/\Below w.heap.size w w':=by
 have hF:=hT.fits;have hfew:=hT.mem.few;have HT:=hi_ hT;have QA:=hi_ (fun(y:Nat) (hy:has m y=true) W (hb:Below w.heap.size w W)=>(by
  have h1:=at_ T (hd T pos y) W (hT.below hb).mem (by have:=aP_ (T:=T) (pos:=pos) y;omega) (by have:=bA_ hfew hF hy;omega);rw[bH_ hfew hF hy 1]at h1;exact h1:Calls Tryz.prog 83 #[.pointer (some ⟨T.tb,0,none⟩),.int .i64 (hd T pos y)] W fun e w'=>e=.returned (.pointer (some ⟨T.g,pos y*10+1,none⟩))/\Below W.heap.size W w'))
 have KC:=hi_ (fun(y:Nat) (hy:has m y=true) W (hb:Below w.heap.size w W)=>(show W.cell? ⟨T.g,pos y*10+1,none⟩=some (.int .i64 ((nd m y).kind:Nat))from by
  rw[((hT.below hb).cell hy (k:=1) (by omega)).1,<-hF.kind y hy];rfl))
 have QC:=hi_ (fun W (hb:Below w.heap.size w W)=>dN_ T m pos h p W (hT.below hb) hh hph);have QK:=hi_ (fun W (hb:Below w.heap.size w W)=>j8_ T m pos p W (hT.below hb) hph);have HK:=hi_ (fun c (hc:c∈(nd m p).kids)=>bu_ hF hph hc);have HInj:=hi_ (fun c (hc:has m c=true) (e:hd T pos c=hd T pos h)=>dB_ hF hc hh e);have hkf:=cH_ hfew hF hph;have HR:Hid (may m p h=(!((nd m h).kind==1) && !(contains m h p) && ((nd m p).kind==2 || ((nd m p).kind==1 && (nd m h).kind==4) || ((nd m p).kind==1 && (nd m h).kind==2 && (nd m p).kids.all (fun k=>k==h || (nd m k).kind != 2))))):=hi_ rfl;have Q1:=hi_ (QA.out p hph);have Q2:=hi_ (QA.out h hh);have K1:=hi_ (KC.out p hph);have K2:=hi_ (KC.out h hh);generalize may m p h=R at *;generalize hl:(nd m p).kids=l at *;generalize contains m h p=cc at *
 have HAll:Hid (∀q,q=l.all (fun k=>k==h || (nd m k).kind != 2)->R=(!((nd m h).kind==1) && !cc && ((nd m p).kind==2 || ((nd m p).kind==1 && (nd m h).kind==4) || ((nd m p).kind==1 && (nd m h).kind==2 && q)))):=hi_ (fun q hq=>by rw[hq,HR.out]);generalize hkp:(nd m p).kind=kp at *;generalize hkh:(nd m h).kind=kh at *;generalize hd T pos p=zp at *;clear hT HR hl hkp hkh
 go_enter Tryz.func114,Tryz.ntmps114
 go_wp2_with fail
 refine(Q1.out _ (br_)).mono ?_;rintro e w1 ⟨rfl,hb⟩;have HB1:=hi_ hb;clear hb;go_wp2_with fail
 refine(Q2.out _ HB1.out).mono ?_;rintro e w2 ⟨rfl,hb⟩;have HB2:=bt_ HB1 hb;clear hb HB1;have kp2:=K1.out w2 HB2.out;have kh2:=K2.out w2 HB2.out
 by_cases c1:kh=1
 ·have HRr:Hid (R=false):=hi_ (by rw[HAll.out _ rfl,c1];rfl)
  have b1:(((kh:Nat):Int)==1)=true:=by rw[c1];rfl
  have b2:((kh:Nat):Int)=1:=by omega
  clear c1;go_wp2_with fail
  go_ret
  exact⟨ao_ (a:=false) HRr.out.symm,HB2.out⟩
 ·have b1:(((kh:Nat):Int)==1)=false:=bn_ (by omega)
  have b2:¬((kh:Nat):Int)=1:=by omega
  have HC1:=hi_ (show(kh==1)=false from bn_ c1);clear c1;go_wp2_with fail
  refine(QC.out _ HB2.out).mono ?_;rintro e w3 ⟨rfl,hb⟩;have HB3:=bt_ HB2 hb;clear hb kp2 kh2;have kp3:=K1.out w3 HB3.out;have kh3:=K2.out w3 HB3.out
  cases cc with
  |true=>
   have HRr:Hid (R=false):=hi_ (by rw[HAll.out _ rfl];simp);go_wp2_with fail
   go_ret
   exact⟨ao_ (a:=false) HRr.out.symm,HB3.out⟩
  |false=>
   by_cases d1:kp=2
   ·have HRr:Hid (R=true):=hi_ (by rw[HAll.out _ rfl,HC1.out,d1];rfl)
    have e1:(((kp:Nat):Int)==2)=true:=by rw[d1];rfl
    have e2:((kp:Nat):Int)=2:=by omega
    clear d1;go_wp2_with fail
    go_ret
    exact⟨ao_ (a:=true) HRr.out.symm,HB3.out⟩
   ·have e1:(((kp:Nat):Int)==2)=false:=bn_ (by omega)
    have e2:¬((kp:Nat):Int)=2:=by omega
    have HD1:=hi_ (show(kp==2)=false from bn_ d1);clear d1
    by_cases d2:kp=1
    ·have e3:(((kp:Nat):Int)==1)=true:=by rw[d2];rfl
     have e4:((kp:Nat):Int)=1:=by omega
     have HD2:=hi_ (show(kp==1)=true from by rw[d2];rfl);have e5:(((kp:Nat):Int) != 1)=false:=by rw[d2];rfl
     clear d2
     by_cases d3:kh=4
     ·have HRr:Hid (R=true):=hi_ (by rw[HAll.out _ rfl,HC1.out,HD1.out,HD2.out,d3];rfl)
      have f1:(((kh:Nat):Int)==4)=true:=by rw[d3];rfl
      have f2:((kh:Nat):Int)=4:=by omega
      clear d3;go_wp2_with fail
      go_ret
      exact⟨ao_ (a:=true) HRr.out.symm,HB3.out⟩
     ·have f1:(((kh:Nat):Int)==4)=false:=bn_ (by omega)
      have f2:¬((kh:Nat):Int)=4:=by omega
      have HD3:=hi_ (show(kh==4)=false from bn_ d3);clear d3
      by_cases d4:kh=2
      ·have f3:(((kh:Nat):Int)==2)=true:=by rw[d4];rfl
       have f4:((kh:Nat):Int)=2:=by omega
       have f5:(((kh:Nat):Int) != 2)=false:=by rw[d4];rfl
       have HRr:Hid (∀q,q=l.all (fun k=>k==h || (nd m k).kind != 2)->R=q):=hi_ (fun q hq=>by rw[HAll.out q hq,HC1.out,HD1.out,HD2.out,HD3.out,d4];simp);clear d4;go_wp2_with fail
       refine(QK.out _ HB3.out).mono ?_;rintro e w4 ⟨v,rfl,hb,ho⟩;obtain⟨ao,cap,rfl,hcs⟩:=eO_.form ho;have HCS:=hi_ hcs;have HB4:=bt_ HB3 hb;have HI0:Hid (R=(l.drop 0).all (fun k=>k==h || (nd m k).kind != 2)):=hi_ (HRr.out _ (by rw[List.drop_zero]));clear hb ho hcs kp3 kh3 HAll HRr;generalize hlen:l.length=len at *;have HLen:=hi_ hlen;clear hlen;go_wp2_with fail
       go_loopw [63] (fun v63 wr=>∃i:Nat,v63=.int .i64 (i:Nat)/\i<=len/\Hid (R=(l.drop i).all (fun k=>k==h || (nd m k).kind != 2))/\Hid (Below w.heap.size w wr)/\Hid (Below w4.heap.size w4 wr)) (fun v63 _=>len-(aN_ v63).toNat)
       case atStart=>exact⟨0,rfl,Nat.zero_le _,HI0,HB4,hi_ (br_)⟩
       case round=>
        obtain⟨i,rfl,hi,HI,HU,HU4⟩:=hrel;clear HI0 HB4
        by_cases hq:i=len
        ·have hnl:¬((i:Int)<(len:Int)):=by omega
         have HF:Hid (R=true):=hi_ (by rw[HI.out,List.drop_of_length_le (by rw[HLen.out];omega)];rfl);clear hq;go_wp2_with fail
         go_ret
         exact⟨ao_ (a:=true) HF.out.symm,HU.out⟩
        ·have hlt:(i:Int)<(len:Int):=by omega
         have hil:i<l.length:=by rw[HLen.out];omega
         have hx:l[i]?=some l[i]:=List.getElem?_eq_getElem hil;have hxk:=HK.out _ (List.mem_of_getElem? hx);obtain⟨g,rfl,hg1,hg2,hcell⟩:=HCS.out _ _ hx;have HDr:=hi_ (jG_ (f:=fun k=>k==h || (nd m k).kind != 2) hx);generalize l[i]=x at *;have hcr:wr.cell? ⟨g,i,none⟩=some (.int .i64 (hd T pos x)):=(HU4.out.cell (p:=⟨g,i,none⟩) hg1).trans hcell;have QX:=hi_ (QA.out x hxk);have KX:=hi_ (KC.out x hxk);have HXi:=hi_ (fun(e:hd T pos x=hd T pos h)=>HInj.out x hxk e);have HXe:=hi_ (fun(e:x=h)=>congrArg (hd T pos) e);clear hq hil hx hxk hcell
         by_cases g1:hd T pos x=hd T pos h
         ·have j1:(hd T pos x==hd T pos h)=true:=by rw[g1];exact beq_self_eq_true _
          have j2:(hd T pos x != hd T pos h)=false:=by rw[g1];simp
          have HN:Hid (R=(l.drop (i+1)).all (fun k=>k==h || (nd m k).kind != 2)):=hi_ (by rw[HI.out,HDr.out,HXi.out g1];simp);clear g1;go_wp2_with fail
          go_roundw
          case rel=>exact⟨i+1,by first|rfl|(congr 1),by omega,HN,HU,HU4⟩
          case measure=>
           show len-((i:Int)+1).toNat<len-((i:Int)).toNat;omega
         ·have j1:(hd T pos x==hd T pos h)=false:=bn_ g1
          have j2:(hd T pos x != hd T pos h)=true:=bne_iff_ne.2 g1;have HXn:=hi_ (show(x==h)=false from bn_ (fun e=>g1 (HXe.out e)));go_wp2_with fail
          refine(QX.out _ HU.out).mono ?_;rintro e w6 ⟨rfl,hb6⟩;have HU6:=bt_ HU hb6;have HU64:=bt_ HU4 hb6;have kx:=KX.out _ HU6.out;clear hb6 hcr;generalize hkx:(nd m x).kind=kk at *;have HKx:=hi_ hkx;clear hkx
          by_cases g2:kk=2
          ·have i1:(((kk:Nat):Int)==2)=true:=by rw[g2];rfl
           have i2:((kk:Nat):Int)=2:=by omega
           have HF:Hid (R=false):=hi_ (by rw[HI.out,HDr.out,HXn.out,g2];rfl);clear g2;go_wp2_with fail
           go_ret
           exact⟨ao_ (a:=false) HF.out.symm,HU6.out⟩
          ·have i1:(((kk:Nat):Int)==2)=false:=bn_ (by omega)
           have i2:¬((kk:Nat):Int)=2:=by omega
           have HN:Hid (R=(l.drop (i+1)).all (fun k=>k==h || (nd m k).kind != 2)):=hi_ (by rw[HI.out,HDr.out,HXn.out];simp[g2]);clear g2;go_wp2_with fail
           go_roundw
           case rel=>exact⟨i+1,by first|rfl|(congr 1),by omega,HN,HU6,HU64⟩
           case measure=>
            show len-((i:Int)+1).toNat<len-((i:Int)).toNat;omega
      ·have f3:(((kh:Nat):Int)==2)=false:=bn_ (by omega)
       have f4:¬((kh:Nat):Int)=2:=by omega
       have f5:(((kh:Nat):Int) != 2)=true:=bne_iff_ne.2 (by omega);have HRr:Hid (R=false):=hi_ (by rw[HAll.out _ rfl,HC1.out,HD1.out,HD2.out,HD3.out,show(kh==2)=false from bn_ d4];rfl);clear d4;go_wp2_with fail
       go_ret
       exact⟨ao_ (a:=false) HRr.out.symm,HB3.out⟩
    ·have e3:(((kp:Nat):Int)==1)=false:=bn_ (by omega)
     have e4:¬((kp:Nat):Int)=1:=by omega
     have e5:(((kp:Nat):Int) != 1)=true:=bne_iff_ne.2 (by omega);have HRr:Hid (R=false):=hi_ (by rw[HAll.out _ rfl,HC1.out,HD1.out,show(kp==1)=false from bn_ d2];rfl);clear d2;go_wp2_with fail
     go_ret
     exact⟨ao_ (a:=false) HRr.out.symm,HB3.out⟩
end A
end
section
open Go.RowKit Go.Sort
namespace R
open H G A
theorem mHeight(M:aF_)(w:World)(h:ab_ w M)(W:WF M.m):∀(n i:Nat),aA_ M.m i<=n->i<M.nodes.length->Calls Tryz.prog 121 #[.pointer (some ⟨M.mb,0,none⟩),.int .i64 i] w fun e w'=>e=.returned (.int .i64 (aA_ M.m i:Nat))/\w=w':=by
 intro n
 induction n with
 |zero=>
  intro i hn hi;rw[W.height_eq i]at hn;omega
 |succ n ih=>
 intro i hn hi;obtain⟨c0,l0,l1⟩:=h.top;have k5:=(h.cell hi).2.2.2.2.2.1;obtain⟨ao,cap,hv,hc⟩:=b4_.form (h.kidsRow hi);rw[hv]at k5;have n1:(i:Int)<(M.nodes.length:Int):=by omega
 have IH:=hi_ (fun(c:Nat) (hc:c∈(nd M.m i).kids)=>ih c (by have:=W.height_kid hc;omega) (by rw[<-M.m_len];exact(W.kid i c hc).1));have HE:=hi_ (W.height_eq i);have hfew:=h.few;have hln:(nd M.m i).kids.length<=1000000:=by
  have h1:(nd M.m i).kids.length<=(List.range M.nodes.length).length:=List.Nodup.length_le_of_subset (W.nodup i) (fun x hx=>List.mem_range.2 (by rw[<-M.m_len];exact(W.kid i x hx).1));rw[List.length_range]at h1;omega
 generalize hl:(nd M.m i).kids=l at *;have HC:=hi_ hc;generalize hlen:l.length=len at *;have HLen:=hi_ hlen;clear ih h hn hi hv hc hl hlen
 go_enter Tryz.func121,Tryz.ntmps121
 go_wp2_with fail
 go_loopw [5,6] (fun v5 v6 wr=>∃q:Nat,v5=.int .i64 (ey_ ((l.take q).map (aA_ M.m)):Nat)/\v6=.int .i64 (q:Nat)/\q<=len/\wr=w) (fun _ v6 _=>len-(aN_ v6).toNat)
 case atStart=>exact⟨0,rfl,rfl,by omega,rfl⟩
 case round=>
  obtain⟨q,rfl,rfl,hq0,rfl⟩:=hrel;have hm1:=js_ M.m (l.take q);generalize hmx:ey_ ((l.take q).map (aA_ M.m))=mx at *;have HMX:=hi_ hmx;clear hmx
  by_cases hq:q=len
  ·have hF2:Hid ((mx:Int)+1=(aA_ M.m i:Nat)):=hi_ (by
    rw[HE.out,<-HMX.out,List.take_of_length_le (by rw[HLen.out];omega)];rfl)
   have hnl:¬((q:Int)<(len:Int)):=by omega
   clear hq;go_wp2_with fail
   go_ret
   exact⟨ay_ (by have:=hF2.out;simpa using this),rfl⟩
  ·have hil:q<l.length:=by rw[HLen.out];omega
   have hlt:(q:Int)<(len:Int):=by omega
   have hx:l[q]?=some l[q]:=List.getElem?_eq_getElem hil;obtain⟨g,rfl,hg1,hcell⟩:=HC.out _ _ hx;have hm2:=hG_ (f:=aA_ M.m) hx;have Q3:=hi_ (IH.out _ (List.mem_of_getElem? hx));have hm3:=dH_ M.m l[q];generalize l[q]=c at *;rw[HMX.out]at hm2;have HM2:=hi_ hm2;generalize aA_ M.m c=hc at *;have wq:IntKind.i64.wrap ((q:Int)+1)=(q:Int)+1:=IntWalk.i64_in _ (by omega);clear hx hm2 hil hq;go_wp2_with fail
   refine Q3.out.mono ?_;rintro e w3 ⟨rfl,rfl⟩;go_wp2_with fail
   go_roundw
   case rel=>
    refine⟨q+1,?_,?_,by omega,trivial⟩
    ·rw[HM2.out]
     congr 1
     omega
    ·first|rfl|(congr 1)
   case measure=>
    show len-((q:Int)+1).toNat<len-((q:Int)).toNat;omega
def ic_(m:aa_)(p h:Nat):Bool:=if h=0\/contains m h p=true then false else if (nd m p).kind=2 then true else if p≠0\/(nd m h).kind=3 then false else(nd m 0).kids.all (fun k=>k==h || (nd m k).kind != 2 || (nd m h).kind != 2)
theorem mi_{m:aa_}(W:WF m){p h:Nat}(hp:p<m.length)(hh:h<m.length):ic_ m p h=may m p h:=by
 have hk1:∀i,i<m.length->((nd m i).kind=1↔i=0):=fun i hi=>by
  constructor
  ·intro h1
   rcases Nat.eq_zero_or_pos i with h0|h0
   ·exact h0
   ·have:=(W.kinds i hi h0).1;omega
  ·rintro rfl;exact W.doc.2.1
 unfold ic_ may
 by_cases c1:h=0
 ·have:=(hk1 h hh).2 c1
  rw[if_pos (Or.inl c1),this];rfl
 ·have h1:((nd m h).kind==1)=false:=bn_ (fun e=>c1 ((hk1 h hh).1 e))
  rw[h1]
  cases cc:contains m h p with
  |true=>rw[if_pos (Or.inr rfl)];simp
  |false=>
   rw[if_neg (by rintro(e|e);exact c1 e;cases e)]
   by_cases c2:(nd m p).kind=2
   ·rw[if_pos c2,c2];rfl
   ·rw[if_neg c2]
    have h2:((nd m p).kind==2)=false:=bn_ c2;rw[h2]
    by_cases c3:p=0
    ·subst c3
     rw[W.doc.2.1]
     by_cases c4:(nd m h).kind=3
     ·rw[if_pos (Or.inr c4),c4];rfl
     ·rw[if_neg (by rintro(e|e);exact e rfl;exact c4 e)]
      have hkk:(nd m h).kind=2\/(nd m h).kind=4:=by
       have h0:0<h:=by omega
       have:=W.kinds h hh h0;omega
      rcases hkk with e|e
      ·rw[e]
       simp
      ·rw[e]
       simp
    ·rw[if_pos (Or.inl c3)]
     have h3:((nd m p).kind==1)=false:=bn_ (fun e=>c3 ((hk1 p hp).1 e));rw[h3];rfl
end R
end
section
open Go.RowKit Go.Sort
namespace A
open H G
theorem lH_:(Tryz.prog.info? 73).map (fun i=>(i.zero,i.size,i.bytes))=some (some (.agg #[.int .i64 0,.int .i64 0,.int .i64 0,.int .i64 0,.int .i64 0,.int .i64 0,.string ⟨#[]⟩,.string ⟨#[]⟩,.bool false,.int .i64 0,.int .i64 0]),11,104):=by kernel_rfl
def ax_(T:am_)(pos:Nat->Nat)(base:Nat)(w:World)(v:Value)(l:List Rec):Prop:=ac_ (aB_ T pos) base 73 11 w v l
theorem fC_{T T':am_}{pos:Nat->Nat}(h1:T'.bs=T.bs)(h2:T'.st=T.st)(r:Rec):aB_ T' pos r=aB_ T pos r:=by
 unfold aB_;have e0:∀o,hdO T' pos o=hdO T pos o:=d0_ h1 h2;have e1:hd T' pos r.target=hd T pos r.target:=e0 (some r.target);rw[e0,e0,e0,e1]
theorem ax_.nil(T:am_)(pos:Nat->Nat)(base:Nat)(w:World):ax_ T pos base w (.slice none 0 0) []:=World.ownsRow_nil _ _ _ _
theorem ax_.form{T:am_}{pos:Nat->Nat}{base:Nat}{w:World}{v:Value}{l:List Rec}(h:ax_ T pos base w v l):∃ao cap,v=.slice ao l.length cap:=by
 unfold ax_ ac_ at h
 rcases h.2 with⟨h1,h2⟩|⟨g,cap,cur,h1,_⟩
 ·exact⟨none,0,by rw[h1,h2]⟩
 ·exact⟨_,cap,h1⟩
theorem gC_{T:am_}{pos:Nat->Nat}(r:Rec):∀u∈aB_ T pos r,u.oneCell'=true:=by
 intro u hu;unfold aB_ at hu;simp only[List.mem_cons,List.not_mem_nil,or_false]at hu
 rcases hu with rfl|rfl|rfl|rfl|rfl|rfl|rfl|rfl|rfl|rfl|rfl<;>rfl
theorem al_.grown{w w':World}{T:am_}(h:al_ w T){base size n:Nat}{e:TypeId}{v:Value}{xs:List Value}(hr:w.ownsRow base e size v n xs)(hg:w.grownBy w' v.ownBlock)(h1:92≠e)(h2:210≠e)(h3:3≠e)(h4:142≠e):al_ w' T:=by
 have f:H.Frame (fun k=>v.ownBlock=some k) w w':=⟨hg.os,hg.tape,hg.output,hg.size,fun k hk hn=>hg.block k hk (fun e=>hn e.symm)⟩;exact⟨h.blk.frame f (fun e=>ak_ hr h.blk (Ne.symm h1) e),ah_ h.row f (fun g hg e=>aU_ h.row hr h2 hg e),h.few,h.bb,ah_ h.free f (fun g hg e=>aU_ h.free hr h3 hg e),fun r hr'=>ah_ (h.attrs r hr') f (fun g hg e=>aU_ (h.attrs r hr') hr h4 hg e)⟩
theorem gP_{m:aa_}(W:WF m){p h:Nat}{b:Option Nat}(hl:h<m.length)(hpl:p<m.length)(hb:∀x,b=some x->(nd m x).parent=some p) :
  cI_ (out m h) p (placeOf (out m h) p (aC_ m h b))=aC_ m h b:=by
 have key:∀x,aC_ m h b=some x->x∈(nd (out m h) p).kids:=by
  intro x hx;have hin:x∈(nd m p).kids/\x≠h:=by
   unfold aC_ at hx
   by_cases e:b=some h
   ·rw[if_pos e]at hx
    have hp:=hb h e;rw[hp]at hx;dsimp only at hx;refine⟨List.mem_of_getElem? hx,fun e2=>?_⟩;rw[e2]at hx;have h1:=dr_ (W.par h p hp).2;have hi:(nd m p).kids.idxOf h<(nd m p).kids.length:=List.idxOf_lt_length_of_mem (W.par h p hp).2;have:=(List.getElem?_inj hi (W.nodup p)).1 (h1.trans hx.symm);omega
   ·rw[if_neg e]at hx
    exact⟨(W.par x p (hb x hx)).2,fun e2=>e (by rw[hx,e2])⟩
  unfold out
  cases hq:(nd m h).parent with
  |none=>exact hin.1
  |some q=>
   dsimp only;rw[bY_ hl (W.lt hq).2];dsimp only
   by_cases e:p=q
   ·rw[if_pos e];exact(List.mem_erase_of_ne hin.2).2 hin.1
   ·rw[if_neg e];exact hin.1
 cases hbf:aC_ m h b with
 |none=>unfold placeOf cI_;dsimp only;exact List.getElem?_eq_none (nl_)
 |some x=>unfold placeOf cI_;dsimp only;exact dr_ (key x hbf)
theorem aj_.has_out{m:aa_}(W:WF m){h:Nat}(hl:h<m.length)(j:Nat):has (out m h) j=has m j:=by
 unfold out
 cases hq:(nd m h).parent with
 |none=>rfl
 |some q=>exact lU_ hl (W.lt hq).2 j
def b9_(m:aa_)(p:Nat)(b:Option Nat):Bool:=match b with|none=>false|some x=>!decide ((nd m x).parent=some p)
theorem e8_(m:aa_)(p h:Nat)(b:Option Nat):(may m p h=false\/b9_ m p b=true->insert m p h b=([],10,m))/\(may m p h=true->b9_ m p b=false->128<depth m p+aA_ m h->insert m p h b=([],5,m)) ∧
  (may m p h=true->b9_ m p b=false->¬128<depth m p+aA_ m h->insert m p h b=(bp_ m h++[dE_ (out m h) p h (placeOf (out m h) p (aC_ m h b))],0,put (out m h) p h (placeOf (out m h) p (aC_ m h b)))):=by
 have e:b9_ m p b=true↔∃x,b=some x/\(nd m x).parent≠some p:=by
  unfold b9_
  cases b with
  |none=>simp
  |some x=>simp
 have e2:may m p h=true->b9_ m p b=false->¬(may m p h=false\/∃x,b=some x/\(nd m x).parent≠some p):=fun h1 h2 h3=>by
  rcases h3 with h3|h3
  ·rw[h1]at h3;cases h3
  ·rw[e.2 h3]at h2;cases h2
 unfold G.insert;refine⟨fun h1=>?_,fun h1 h2 h3=>?_,fun h1 h2 h3=>?_⟩
 ·rw[if_pos (h1.imp id e.1)]
 ·rw[if_neg (e2 h1 h2),if_pos h3]
 ·rw[if_neg (e2 h1 h2),if_neg h3]
theorem lF_(T:am_)(m:aa_)(pos:Nat->Nat)(p h:Nat)(b:Option Nat)(w:World)(hT:aj_ w T m pos)(hph:has m p=true)(hh:has m h=true)(hb:∀x,b=some x->has m x=true) :
  Calls Tryz.prog 60 #[.pointer (some ⟨T.tb,0,none⟩),.int .i64 (hd T pos p),.int .i64 (hd T pos h),.int .i64 (hdO T pos b)] w fun e w'=>∃v T',e=.returned (.tuple #[v,.int .i64 ((insert m p h b).2.1:Nat)])/\H.Frame (fun k=>k=T.g) w w'/\a9_ T T'/\aj_ w' T' (insert m p h b).2.2 pos/\ax_ T pos w.heap.size w' v (insert m p h b).1:=by
 have hF:=hT.fits;have W:=hF.wf;have hfew:=hT.mem.few;have HT:=hi_ hT;have QA:=hi_ (fun(y:Nat) (hy:has m y=true) W (hb:Below w.heap.size w W)=>(by
  have h1:=at_ T (hd T pos y) W (hT.below hb).mem (by have:=aP_ (T:=T) (pos:=pos) y;omega) (by have:=bA_ hfew hF hy;omega);rw[bH_ hfew hF hy 1]at h1;exact h1:Calls Tryz.prog 83 #[.pointer (some ⟨T.tb,0,none⟩),.int .i64 (hd T pos y)] W fun e w'=>e=.returned (.pointer (some ⟨T.g,pos y*10+1,none⟩))/\Below W.heap.size W w'))
 have CP:=hi_ (fun(y:Nat) (hy:has m y=true) W (hb:Below w.heap.size w W)=>(show W.cell? ⟨T.g,pos y*10+5,none⟩=some (.int .i64 (hdO T pos (nd m y).parent))/\W.cell? ⟨T.g,pos y*10+9,none⟩=some (.int .i64 (hdO T pos (ap_ m y)))from ⟨by
  rw[((hT.below hb).cell hy (k:=5) (by omega)).1,<-hF.parent y hy];rfl,by rw[((hT.below hb).cell hy (k:=9) (by omega)).1,<-hF.next y hy];rfl⟩))
 have QM:=hi_ (fun W (hb:Below w.heap.size w W)=>may_ T m pos p h W (hT.below hb) hph hh);have QD:=hi_ (fun W (hb:Below w.heap.size w W)=>depth_ T m pos p W (hT.below hb) hph);have QH:=hi_ (fun W (hb:Below w.heap.size w W)=>height_ T m pos _ h W (nl_) (hT.below hb) hh);have QU:=hi_ (fun q (hq:(nd m h).parent=some q) W (hb:Below w.heap.size w W)=>kK_ T m pos h q W (hT.below hb) hh hq);have HIns:=hi_ (e8_ m p h b);have HPar:=hi_ (fun x (hx:b=some x)=>(show b9_ m p b = !decide ((nd m x).parent=some p) by rw[hx];rfl));have HPn:=hi_ (fun(hx:b=none)=>(show b9_ m p b=false by rw[hx];rfl));have HB:=hi_ hb;have HH:=hi_ hh;have HPh:=hi_ hph;have hdl:=W.depth_le p;have hhl:=dH_ m h;obtain⟨zb,hzb⟩:∃z,z=hdO T pos b:=⟨_,rfl⟩;have HZb:=hi_ hzb;rw[<-hzb]
 obtain⟨RI,hRI⟩:∃R,R=insert m p h b:=⟨_,rfl⟩;have HRI:=hi_ hRI;rw[<-hRI];clear hT hb hzb hRI hh hph
 go_enter Tryz.func60,Tryz.ntmps60
 go_upto_region 1 with fail
 go_cut [11] (fun s11 wx=>s11=.bool false/\Hid (Below w.heap.size w wx))
 case first=>
  go_wp2_with fail
  refine(QA.out p HPh.out _ (br_)).mono ?_;rintro e w1 ⟨rfl,h1⟩;have HB1:=hi_ h1;clear h1;go_wp2_with fail
  refine(QA.out h HH.out _ HB1.out).mono ?_;rintro e w2 ⟨rfl,h2⟩;have HB2:=bt_ HB1 h2;clear h2
  cases hb:b with
  |none=>
   have hz0:zb=0:=by rw[HZb.out,hb];rfl
   subst hz0;clear hb;go_wp2_with fail
   go_meet
   exact⟨rfl,HB2⟩
  |some x=>
   have hz0:zb=hd T pos x:=by rw[HZb.out,hb];rfl
   subst hz0;have hne1:¬hd T pos x=0:=by have:=aP_ (T:=T) (pos:=pos) x;omega
   have hne0:(hd T pos x==0)=false:=bn_ hne1;have hne2:(hd T pos x != 0)=true:=bne_iff_ne.2 hne1;have Q3:=hi_ (QA.out x (HB.out x hb) _ HB2.out);clear hb;go_wp2_with fail
   refine Q3.out.mono ?_;rintro e w3 ⟨rfl,h3⟩;have HB3:=bt_ HB2 h3;clear h3;go_wp2_with fail
   go_meet
   exact⟨rfl,HB3⟩
 case rest=>
  obtain⟨rfl,HB1⟩:=hcut;go_upto_region 3 with fail
  obtain⟨c3,hc3⟩:∃c3,c3=(!(may m p h) || b9_ m p b):=⟨_,rfl⟩;have HC3:=hi_ hc3;clear hc3
  go_cut [32] (fun s32 wx=>s32=.bool c3/\Hid (Below w.heap.size w wx))
  case first=>
   go_wp2_with fail
   refine(QM.out _ HB1.out).mono ?_;rintro e w2 ⟨rfl,h2⟩;have HB2:=bt_ HB1 h2;clear h2
   cases hm:may m p h with
   |false=>
    have HMf:=hi_ hm;clear hm;go_wp2_with fail
    go_meet
    exact⟨congrArg Value.bool (by rw[HC3.out,HMf.out];rfl),HB2⟩
   |true=>
    have HMf:=hi_ hm;clear hm
    cases hb:b with
    |none=>
     have hz0:zb=0:=by rw[HZb.out,hb];rfl
     subst hz0;have HBn:=hi_ (HPn.out hb);clear hb;go_wp2_with fail
     go_meet
     exact⟨congrArg Value.bool (by rw[HC3.out,HMf.out,HBn.out];rfl),HB2⟩
    |some x=>
     have hz0:zb=hd T pos x:=by rw[HZb.out,hb];rfl
     subst hz0;have hne1:¬hd T pos x=0:=by have:=aP_ (T:=T) (pos:=pos) x;omega
     have hne0:(hd T pos x==0)=false:=bn_ hne1;have hne2:(hd T pos x != 0)=true:=bne_iff_ne.2 hne1;have hxx:=HB.out x hb;have Q3:=hi_ (QA.out x hxx _ HB2.out);have HCx:=hi_ (CP.out x hxx);have HBd:=hi_ (HPar.out x hb);have HEq:Hid (∀B,B=decide ((nd m x).parent=some p)->(hdO T pos (nd m x).parent==hd T pos p)=B):=hi_ (fun B hB=>by
      rw[hB]
      cases hpx:(nd m x).parent with
      |none=>
       have:¬(0:Int)=hd T pos p:=by have:=aP_ (T:=T) (pos:=pos) p;omega
       simp[hdO,this]
      |some q=>
       by_cases e:q=p
       ·rw[e];simp[hdO]
       ·have:¬hd T pos q=hd T pos p:=fun e2=>e (dB_ hF (bC_ hF hxx hpx) HPh.out e2)
        simp[hdO,this,e])
     clear hb hxx;go_wp2_with fail
     refine Q3.out.mono ?_;rintro e w3 ⟨rfl,h3⟩;have HB3:=bt_ HB2 h3;obtain⟨k5,_⟩:=HCx.out w3 HB3.out;clear h3;generalize hB:decide ((nd m x).parent=some p)=B at *;have j1:=HEq.out B rfl;have j2:(hdO T pos (nd m x).parent != hd T pos p) = !B:=by rw[<-j1];rfl
     clear hB
     cases B with
     |true=>
      go_wp2_with fail
      go_meet
      exact⟨congrArg Value.bool (by rw[HC3.out,HMf.out,HBd.out];rfl),HB3⟩
     |false=>
      have j3:=beq_eq_false_iff_ne.1 j1;go_wp2_with fail
      go_meet
      exact⟨congrArg Value.bool (by rw[HC3.out,HMf.out,HBd.out];rfl),HB3⟩
  case rest=>
   obtain⟨rfl,HB2⟩:=hcut
   cases hbad:c3 with
   |true=>
    rw[HC3.out]at hbad;have HRr:Hid (RI=([],10,m)):=hi_ (by
     rw[HRI.out];refine HIns.out.1 ?_
     rcases Bool.or_eq_true_iff.1 hbad with h|h
     ·exact Or.inl (by simpa using h)
     ·exact Or.inr h)
    clear hbad;go_wp2_with fail
    refine bodyPost_ret (v:=.tuple #[.slice none 0 0,.int .i64 10]) (by simp[results,Tryz.results60,go_sem]) rfl ⟨.slice none 0 0,T,by rw[HRr.out];rfl,H.Frame.of HB2.out,a9_.refl T,by rw[HRr.out];exact HT.out.below HB2.out,by rw[HRr.out];exact ax_.nil _ _ _ _⟩
   |false=>
    rw[HC3.out]at hbad;have HMy:=hi_ (show may m p h=true by have:=(Bool.or_eq_false_iff.1 hbad).1;simpa using this);have HPl:=hi_ (Bool.or_eq_false_iff.1 hbad).2;clear hbad;generalize hdd:depth m p=dp at *;generalize hhe:aA_ m h=he at *;have HDd:=hi_ hdd;have HHe:=hi_ hhe;have wn:IntKind.i64.wrap ((dp:Int)+(he:Int))=(dp:Int)+(he:Int):=IntWalk.i64_in _ (by omega);clear hdd hhe;go_wp2_with fail
    refine(QD.out _ HB2.out).mono ?_;rintro e w3 ⟨rfl,h3⟩;have HB3:=bt_ HB2 h3;clear h3;go_wp2_with fail
    refine(QH.out _ HB3.out).mono ?_;rintro e w4 ⟨rfl,h4⟩;have HB4:=bt_ HB3 h4;clear h4
    by_cases hlim:128<dp+he
    ·have g1:(128:Int)<(dp:Int)+(he:Int):=by omega
     have HRr:Hid (RI=([],5,m)):=hi_ (by rw[HRI.out];exact HIns.out.2.1 HMy.out HPl.out hlim);clear hlim;go_wp2_with fail
     refine bodyPost_ret (v:=.tuple #[.slice none 0 0,.int .i64 5]) (by simp[results,Tryz.results60,go_sem]) rfl ⟨.slice none 0 0,T,by rw[HRr.out];rfl,H.Frame.of HB4.out,a9_.refl T,by rw[HRr.out];exact HT.out.below HB4.out,by rw[HRr.out];exact ax_.nil _ _ _ _⟩
    ·have g1:¬(128:Int)<(dp:Int)+(he:Int):=by omega
     have HRr:=hi_ (HRI.out.trans (HIns.out.2.2 HMy.out HPl.out hlim));have HLim:=hi_ hlim;clear hlim;have HBo1:Hid (b=some h->aC_ m h b=ap_ m h):=hi_ (fun e=>by unfold aC_;rw[if_pos e];rfl);have HBo2:Hid (b≠some h->aC_ m h b=b):=hi_ (fun e=>by unfold aC_;rw[if_neg e])
     go_upto_if 63 with fail
     go_cut [3] (fun s3 wx=>s3=.int .i64 (hdO T pos (aC_ m h b))/\Hid (Below w.heap.size w wx))
     case first=>
      by_cases e:b=some h
      ·have hz:zb=hd T pos h:=by rw[HZb.out,e];rfl
       subst hz;have z1:(hd T pos h==hd T pos h)=true:=beq_self_eq_true _;have HE:=hi_ (HBo1.out e);clear e;go_wp2_with fail
       refine(QA.out h HH.out _ HB4.out).mono ?_;rintro e w5 ⟨rfl,h5⟩;have HB5:=bt_ HB4 h5;obtain⟨_,k9⟩:=CP.out h HH.out w5 HB5.out;clear h5;go_wp2_with fail
       go_meet
       exact⟨by rw[HE.out],HB5⟩
      ·have hz:¬zb=hd T pos h:=by
        rw[HZb.out]
        cases hbb:b with
        |none=>have:=aP_ (T:=T) (pos:=pos) h;show ¬(0:Int)=hd T pos h;omega
        |some x=>exact fun e2=>e (by rw[hbb,dB_ hF (HB.out x hbb) HH.out e2])
       have z1:(zb==hd T pos h)=false:=bn_ hz;have HE:=hi_ (HBo2.out e);clear e;go_wp2_with fail
       go_meet
       exact⟨by rw[HE.out,<-HZb.out],HB4⟩
     case rest=>
      obtain⟨rfl,HB5⟩:=hcut;go_wp2_with fail
      refine(QA.out h HH.out _ HB5.out).mono ?_;rintro e w6 ⟨rfl,h6⟩;have HB6:=bt_ HB5 h6;obtain⟨k5,_⟩:=CP.out h HH.out w6 HB6.out;clear h6
      go_upto_if 76 with fail
      go_cut [10] (fun s10 wx=>∃T1,Hid (ax_ T pos w.heap.size wx s10 (bp_ m h))/\Hid (aj_ wx T1 (out m h) pos)/\Hid (a9_ T T1)/\Hid (H.Frame (fun k=>k=T.g) w wx))
      case first=>
       cases hq:(nd m h).parent with
       |none=>
        rw[hq]at k5;have k5':w6.cell? ⟨T.g,pos h*10+5,none⟩=some (.int .i64 0):=k5;have z1:(hdO T pos none != 0)=false:=rfl;have z2:(hdO T pos none==0)=true:=rfl;have z3:hdO T pos none=0:=rfl;have HO1:Hid (bp_ m h=[]):=hi_ (by unfold bp_;rw[hq]);have HO2:Hid (out m h=m):=hi_ (by unfold out;rw[hq]);clear k5 hq;go_wp2_with fail
        go_meet
        refine⟨T,hi_ ?_,hi_ ?_,hi_ (a9_.refl T),hi_ (H.Frame.of HB6.out)⟩
        ·rw[HO1.out];exact ax_.nil _ _ _ _
        ·rw[HO2.out];exact HT.out.below HB6.out
       |some q=>
        rw[hq]at k5;have hne1:¬hd T pos q=0:=by have:=aP_ (T:=T) (pos:=pos) q;omega
        have hne0:(hd T pos q==0)=false:=bn_ hne1;have hne2:(hdO T pos (some q) != 0)=true:=bne_iff_ne.2 hne1;have hne3:¬hdO T pos (some q)=0:=hne1;have hne4:(hdO T pos (some q)==0)=false:=hne0;have HO1:Hid (bp_ m h=[bU_ m h q]):=hi_ (by unfold bp_;rw[hq]);have HO2:Hid (out m h=cut m h q):=hi_ (by unfold out;rw[hq]);have Q7:=hi_ (QU.out q hq w6 HB6.out);clear k5 hq;go_wp2_with fail
        refine Q7.out.mono ?_;rintro e w7 ⟨T1,rfl,hf7,hL,hT7⟩;have HF7:=hi_ ((H.Frame.of (S:=fun k=>k=T.g) HB6.out).trans hf7 (fun b hb=>Or.inl hb));have HL:=hi_ hL;have HT7:=hi_ hT7;obtain⟨rc,hrc⟩:∃rc,rc=bU_ m h q:=⟨_,rfl⟩;rw[<-hrc]at HO1 ⊢;have HOn:=hi_ (gC_ (T:=T) (pos:=pos) rc);have HNil:=hi_ (World.ownsRow_nil w7 w.heap.size 73 11);obtain⟨i0,hi0,hz0,hz1,hz2⟩:=info_parts lH_;have hs7:=HF7.out.size;have HRc:Hid (∀x,x=(aB_ T pos rc)->x.toArray=(aB_ T pos rc).toArray):=hi_ (fun x hx=>by rw[hx]);clear hf7 hL hT7 Q7 hrc HRc;unfold aB_
        go_wp2_with (at_builtin;refine wpList_append_lies _ rfl _ _ 66 rfl w.heap.size 73 i0 _ 11 104 Tryz.underlying66 hi0 hz0 hz1 hz2 rfl (by decide) (.slice none 0 0) 0 [] rfl (HNil.out.alloc _) ⟨w7.heap.size,0,none⟩ 1 1 (aB_ T pos rc) rfl rfl ?c1 ?c2 ?c3 ?c4 ?c5 ?c6 (w7.heap.size+1) ?c7 ?_)
        case c1=>exact World.news_of_block (cs:=(aB_ T pos rc).toArray) (heap_alloc_new w7 (.cells (aB_ T pos rc).toArray 73))
        case c2=>exact HOn.out
        case c3=>omega
        case c4=>unfold maxLen;omega
        case c5=>omega
        case c6=>simp;omega
        case c7=>simp
        intro gg cap2 w8 hown8 hgrow hat8 hlt8;have HM8:=hi_ (al_.grown (HT7.out.mem.below ((Below.refl w7.heap.size w7).alloc (nl_) (.cells (aB_ T pos rc).toArray 73))) (World.ownsRow_nil _ w.heap.size 73 11) hgrow (by decide) (by decide) (by decide) (by decide));have HF8:=hi_ ((HF7.out.alloc (.cells (aB_ T pos rc).toArray 73)).grown hgrow (fun k hk=>by simp[Value.ownBlock]at hk));have HO8:=hi_ hown8;clear hown8 hgrow hat8;go_wp2_with fail
        go_meet
        refine⟨T1,hi_ ?_,hi_ ?_,HL,HF8⟩
        ·rw[HO1.out]
         unfold ax_ ac_;rw[show[rc].flatMap (aB_ T pos)=aB_ T pos rc by simp];have:=HO8.out;simpa using this
        ·rw[HO2.out]
         exact⟨HM8.out,HT7.out.fits⟩
      case rest=>
       obtain⟨T1,HR1,HT1,HL1,HF1⟩:=hcut;clear k5 HB6 HB5 HB4 HB2 HB1;obtain⟨m1,m2,m3⟩:=fM_ W HMy.out;have hl:=aR_ HH.out;have hpl:=aR_ HPh.out;obtain⟨o1,o2,o3,o4,o5,o6,o7⟩:=fG_ W hl hpl m1;have hbp:∀x,b=some x->(nd m x).parent=some p:=fun x hx=>by
        have h1:=HPl.out;rw[HPar.out x hx]at h1;simpa using h1
       have haft:=gP_ W hl hpl hbp;have hgn:(nd m h).gone=(nd m p).gone:=by
        have h1:=HH.out;have h2:=HPh.out;unfold has at h1 h2
        cases e1:(nd m h).gone<;>cases e2:(nd m p).gone<;>simp_all
       have hne:h≠p:=fun e=>by rw[<-e,W.contains_self]at m1;cases m1
       have h0:h≠0:=fun e=>m2 (by rw[e];exact W.doc.2.1);obtain⟨k,hk⟩:∃k,k=placeOf (out m h) p (aC_ m h b):=⟨_,rfl⟩;rw[<-hk]at haft HRr;have hkl:k<=(nd (out m h) p).kids.length:=by
        rw[hk];unfold placeOf
        cases aC_ m h b with
        |none=>exact nl_
        |some x=>exact List.idxOf_le_length
       have hWp:WF (put (out m h) p h k):=o1.put o3 h0 (by rw[o2];exact hl) (by rw[o2];exact hpl) (by rw[o4];exact m1) (by rw[o5,o6,HDd.out,HHe.out];have:=HLim.out;omega) (by rw[(o7 p).1];exact m3) (by rw[(o7 h).2,(o7 p).2];exact hgn);have QL:=link_ T1 (out m h) pos h p k _ HT1.out (by rw[aj_.has_out W hl];exact HH.out) (by rw[aj_.has_out W hl];exact HPh.out) o3 hkl hne hWp;have e0:∀o,hdO T1 pos o=hdO T pos o:=d0_ HL1.out.bs HL1.out.st;have e1:hd T1 pos p=hd T pos p:=e0 (some p);have e2:hd T1 pos h=hd T pos h:=e0 (some h);rw[haft,e0,e1,e2,HL1.out.tb,HL1.out.g]at QL;have QL2:=hi_ QL;obtain⟨ao,cap,hv⟩:=HR1.out.form;subst hv;clear QL hkl hWp haft hbp hgn o1 o2 o3 o4 o5 o6 o7 m1 m2 m3 hk e0 e1 e2 h0 hne hl hpl;go_wp2_with fail
       refine QL2.out.mono ?_;rintro e w8 ⟨T2,rfl,hf8,hL2,hT8⟩;have HF8:=hi_ (HF1.out.trans hf8 (fun b hb=>Or.inl hb));have HL2:=hi_ (HL1.out.trans hL2);have HT8:=hi_ hT8;have hr8:=ah_ HR1.out hf8 (fun g hg e=>aU_ HR1.out HT1.out.mem.row (by decide) hg (by rw[HL1.out.g];exact congrArg some e.symm));have HR8:=hi_ hr8;obtain⟨rc,hrc⟩:∃rc,rc=dE_ (out m h) p h k:=⟨_,rfl⟩;rw[<-hrc]at HRr ⊢;rw[fC_ HL1.out.bs HL1.out.st rc];have HOn:=hi_ (gC_ (T:=T) (pos:=pos) rc);obtain⟨i0,hi0,hz0,hz1,hz2⟩:=info_parts lH_;have hs8:=HF8.out.size;have hlo:(bp_ m h).length<=1:=by unfold bp_;cases (nd m h).parent<;>simp
       obtain⟨lo,hlo2⟩:∃lo,lo=bp_ m h:=⟨_,rfl⟩;rw[<-hlo2]at HRr HR8 hlo ⊢;clear hf8 hL2 hT8 hr8 hrc hlo2 QL2 HR1 HT1;unfold aB_;go_wp2_with (at_builtin;refine wpList_append_lies _ rfl _ _ 66 rfl w.heap.size 73 i0 _ 11 104 Tryz.underlying66 hi0 hz0 hz1 hz2 rfl (by decide) (.slice ao lo.length cap) lo.length (lo.flatMap (aB_ T pos)) rfl (World.ownsRow.alloc HR8.out _) ⟨w8.heap.size,0,none⟩ 1 1 (aB_ T pos rc) rfl rfl ?c1 ?c2 ?c3 ?c4 ?c5 ?c6 (w8.heap.size+1) ?c7 ?_)
       case c1=>exact World.news_of_block (cs:=(aB_ T pos rc).toArray) (heap_alloc_new w8 (.cells (aB_ T pos rc).toArray 73))
       case c2=>exact HOn.out
       case c3=>omega
       case c4=>unfold maxLen;omega
       case c5=>omega
       case c6=>simp;omega
       case c7=>simp
       intro gg cap2 w9 hown9 hgrow hat9 hlt9;have HM9:=hi_ (al_.grown (HT8.out.mem.below ((Below.refl w8.heap.size w8).alloc (nl_) (.cells (aB_ T pos rc).toArray 73))) (World.ownsRow.alloc HR8.out _) hgrow (by decide) (by decide) (by decide) (by decide));have HF9:=hi_ ((HF8.out.alloc (.cells (aB_ T pos rc).toArray 73)).grown hgrow (fun k hk=>Or.inr (HR8.out.lt k hk).1));have HO9:=hi_ hown9;clear hown9 hgrow hat9;go_wp2_with fail
       refine bodyPost_ret (v:=.tuple #[.slice (some ⟨gg,0,none⟩) (lo.length+1) cap2,.int .i64 0]) (by simp[results,Tryz.results60,go_sem]) rfl ⟨.slice (some ⟨gg,0,none⟩) (lo.length+1) cap2,T2,by rw[HRr.out];rfl,HF9.out,HL2.out,by rw[HRr.out];exact⟨HM9.out,HT8.out.fits⟩,?_⟩;rw[HRr.out];unfold ax_ ac_;rw[List.flatMap_append,show[rc].flatMap (aB_ T pos)=aB_ T pos rc by simp,List.length_append];exact HO9.out
end A
end
end Go.Proofs.YtinphfpdfodkkaaGreatDoor
