/- Texts. -/
import Derived.Test.YtinphfpdfodkkaaGreatDoorP24
import Derived.Test.YtinphfpdfodkkaaGreatDoorP36
set_option linter.unusedVariables false
set_option linter.unusedSimpArgs false
set_option maxHeartbeats 8000000
set_option maxRecDepth 100000
namespace Go.Proofs.YtinphfpdfodkkaaGreatDoor
section
open Go.RowKit Go.Sort
namespace A
open H G R
theorem ja_{lim:Option Nat}{m:aa_}{o:G.Op}(hk:o.kind % 10=9):G.step lim m o=if has m (o.at_ m)=false then([],6,m) else([],cr_ m (o.at_ m)):=by
 unfold G.step;rw[if_neg (by omega),if_neg (by omega)]
 split
 ·rfl
 ·rw[if_neg (by omega),if_neg (by omega),if_neg (by omega),if_neg (by omega),if_neg (by omega)]
theorem h1_(m:aa_)(a:Nat):(cr_ m a).2.length=m.length:=by
 unfold cr_
 split
 ·rfl
 ·show(G.drop m a).length=_
  unfold G.drop;simp
theorem km_{m m2:aa_}(h:Sim m m2)(a:Nat):(cr_ m a).1=(cr_ m2 a).1:=by
 unfold cr_;rw[h.parent,h.kind]
 split<;>rfl
theorem l8_{m:aa_}(a:Nat){i:Nat}(hi:i<m.length)(h:has (cr_ m a).2 i=true):has m i=true:=by
 unfold cr_ at h
 split at h
 ·exact h
 ·have h2:has (G.drop m a) i=true:=h
  unfold G.has at h2 ⊢;rw[fK_ i hi]at h2
  cases hg:(nd m i).gone with
  |false=>rfl
  |true=>rw[hg]at h2;simp at h2
def ge_(f f0:Nat->Int)(n j:Nat):List Int:=(List.range n).map (fun i=>if i<j then f i else f0 i)
theorem ln_(f f0:Nat->Int)(n:Nat):ge_ f f0 n 0=(List.range n).map f0:=by
 unfold ge_;refine List.map_congr_left fun i _=>?_;rw[if_neg (by omega)]
theorem mZ_(f f0:Nat->Int)(n:Nat):ge_ f f0 n n=(List.range n).map f:=by
 unfold ge_;refine List.map_congr_left fun i hi=>?_;rw[if_pos (List.mem_range.1 hi)]
theorem mY_(f f0:Nat->Int)(n j:Nat)(hj:j<n):ge_ f f0 n (j+1)=(ge_ f f0 n j).set j (f j):=by
 unfold ge_;refine List.ext_getElem? fun i=>?_;rw[List.getElem?_set];simp only[List.getElem?_map,List.length_map,List.length_range]
 rcases Nat.lt_or_ge i n with hi|hi
 ·rw[List.getElem?_range hi]
  by_cases e:j=i
  ·subst e
   rw[if_pos rfl,if_pos hi];simp
  ·rw[if_neg e]
   simp only[Option.map_some]
   by_cases h2:i<j
   ·rw[if_pos h2,if_pos (by omega)]
   ·rw[if_neg h2,if_neg (by omega)]
 ·rw[List.getElem?_eq_none (by rw[List.length_range];exact hi)]
  by_cases e:j=i
  ·omega
  ·rw[if_neg e]
   rfl
theorem hF_(f f0:Nat->Int)(n j:Nat)(hj:f j=f0 j):ge_ f f0 n (j+1)=ge_ f f0 n j:=by
 unfold ge_;refine List.map_congr_left fun i hi=>?_
 by_cases e:i=j
 ·subst e;rw[if_pos (by omega),if_neg (by omega),hj]
 ·by_cases h2:i<j
  ·rw[if_pos h2,if_pos (by omega)]
  ·rw[if_neg h2,if_neg (by omega)]
theorem lD_(l:List Int)(j:Nat)(x:Int):bw_ (l.set j x)=(bw_ l).set j (.int .i64 x):=by unfold bw_;rw[List.map_set]
section
variable {w0 w w1 w2 w3:World} {X:Tw} {T':am_} {M':aF_} {m':aa_} {g cap:Nat}
theorem be_.hv_model(h:be_ w0 w X)(hv:X.hv=.slice (some ⟨g,0,none⟩) X.m.length cap)(hs:w.heap.size<=w1.heap.size)(l2:aO_ w1 X.M M'):¬M'.foot g:=fun e=>by
 have hk:X.hv.ownBlock=some g:=by rw[hv];rfl
 rcases l2.foot g e with e|e
 ·exact(h.hap g hk).2 e
 ·have:=h.foot_lt (k:=g) (Or.inr (Or.inr (Or.inr hk)));omega
theorem be_.sweep(h:be_ w0 w X)(hv:X.hv=.slice (some ⟨g,0,none⟩) X.m.length cap)(f1:H.Frame X.T.foot w w1)(f2:H.Frame X.M.foot w1 w2)(t2:ab_ w2 M')(l2:aO_ w1 X.M M')(fr:H.Frame (fun k=>k=g) w2 w3) :
  ab_ w3 M'/\Blk X.tb #[.pointer (some ⟨X.T.tb,0,none⟩),.pointer (some ⟨M'.mb,0,none⟩),.slice (some ⟨g,0,none⟩) X.m.length cap] 41 w3:=by
 have hk:X.hv.ownBlock=some g:=by rw[hv];rfl
 have hnm:=h.hv_model (w1:=w1) hv f1.size l2;refine⟨t2.frame fr (fun k hk hS=>hnm (by rw[<-hS];exact hk)),?_⟩;have h1:=((h.mid f1).blk.frame f2 h.tb_model).frame fr (fun e=>h.tb_row (by rw[hk,e]));rw[l2.mb,<-hv];exact h1
theorem be_.row0(h:be_ w0 w X)(f1:H.Frame X.T.foot w w1)(f2:H.Frame X.M.foot w1 w2)(f:Nat->Int):w2.ownsRow X.B 3 1 X.hv X.m.length (bw_ (ge_ f (hv1 X.T X.pos X.m) X.m.length 0)):=by
 rw[ln_];exact ah_ (h.mid f1).row f2 (fun g hg hS=>(h.hap g hg).2 hS)
theorem be_.dropped(h:be_ w0 w X)(hv:X.hv=.slice (some ⟨g,0,none⟩) X.m.length cap)(f1:H.Frame X.T.foot w w1)(g1:Goes w X.T T')(t1:aj_ w1 T' m' X.pos)(f2:H.Frame X.M.foot w1 w2)(t2:ab_ w2 M')(l2:aO_ w1 X.M M')
  (hs:Sim m' M'.m) (hlen:m'.length=X.m.length) (hsl:T'.slots.length=X.T.slots.length) (fr:H.Frame (fun k=>k=g) w2 w3)
  (hro:w3.ownsRow X.B 3 1 X.hv X.m.length (bw_ (ge_ (hv1 T' X.pos m') (hv1 X.T X.pos X.m) X.m.length X.m.length))) :
  be_ w0 w3 { X with T:=T',m:=m',pos:=X.pos,M:=M',hv:=X.hv }:=by
 have hk:X.hv.ownBlock=some g:=by rw[hv];rfl
 have hb:=(h.sweep hv f1 f2 t2 l2 fr).2;rw[l2.mb,<-hv]at hb;rw[mZ_]at hro;refine h.more2 f1 g1 t1 f2 t2 l2 hs (Nat.le_of_eq hlen.symm) (by rw[hlen,hsl];exact h.slots) (fr.wide (fun k e=>Or.inl (by rw[hk,e]))) hb ?_ (fun k e=>Or.inl e);rw[hlen];exact hro
end
theorem hp_{w:World}{B g cap n j:Nat}{hv:Value}{f f0:Nat->Int}(hv':hv=.slice (some ⟨g,0,none⟩) n cap)(h:w.ownsRow B 3 1 hv n (bw_ (ge_ f f0 n j)))(hj:j<n)(hf:f j=-1) :
  (w.setCell ⟨g,j,none⟩ (.int .i64 (-1))).ownsRow B 3 1 hv n (bw_ (ge_ f f0 n (j+1))):=by
 subst hv';rw[mY_ f f0 n j hj,lD_,hf];exact ea_ h j _
theorem gs_{w:World}{B g cap n j:Nat}{hv:Value}{f f0:Nat->Int}(hv':hv=.slice (some ⟨g,0,none⟩) n cap)(h:w.ownsRow B 3 1 hv n (bw_ (ge_ f f0 n j)))(hj:j<n) :
  (∃u,w.cell? ⟨g,j,none⟩=some u)/\w.frozen? ⟨g,j,none⟩=false:=by
 subst hv';have hl:j<(bw_ (ge_ f f0 n j)).length:=by rw[eB_];unfold ge_;simpa using hj
 have h1:=(ae_ h).2.2.2 j hl;exact⟨⟨_,h1.1.trans (List.getElem?_eq_getElem hl)⟩,h1.2⟩
end A
end
section
open Go.RowKit Go.Shelf Go.Maps
attribute [local go_sem] Oper.semAt_some
namespace A
open H G R
theorem nk_(n:Nat)(Q:Exit->Act->World->Prop)(w:World)(T:am_)(m:aa_)(pos:Nat->Nat)(c Bs tb B n0 g0 cap0 b1 b2:Nat)(p1 p2:Value)(hs:List Int)(x0 x1 x2 x4 x5 x6 x7 x8 x9 x10 x11 x12 x13 x14 x15 x16 x17 x18 x19 x20 x21 x22 x23 x24 x25 x26 x27 x28 x29 x30 x31 x32 x33 x34 x35 x36 x37 x38 x39 x40 x41 x42 x43 x44 x45 x46 x47 x48 x49 x50 x51 x52 x53 x54 x55 x56 x57 x58 x59 x60 x61 x62 x63 x64 x65 x66 x67 x68 x69 x70 x71 x72 x73 x74 x75 x76 x77 x78 x79 x80 x81 x82 x83 x84 x85 x86 x87 x88 x89 x90 x91 x92 x93 x94 x95 x96 x97 x98 x99 x100 x101 x102 x103 x104 x105 x106 x107 x108 x109 x110 x111:Value)
  (hx:x75=.func (.func 98) #[] #[.pointer (some ⟨b1,0,none⟩),.pointer (some ⟨b2,0,none⟩)])
  (hT:aj_ w T m pos) (hc:has m c=true) (hBx:Blk Bs #[.pointer (some ⟨tb,0,none⟩)] 27 w) (hb:Blk tb #[p1,p2,.slice (some ⟨g0,0,none⟩) n0 cap0] 41 w)
  (hr:w.ownsRow B 3 1 (.slice (some ⟨g0,0,none⟩) n0 cap0) n0 (bw_ hs)) (hn:¬T.foot g0/\¬T.foot tb) (hlen:n0+(walk m c).length<=100000) (hB:B<=w.heap.size)
  (hb1:b1<w.heap.size) (hb2:b2<w.heap.size) (c1:w.cell? ⟨b1,0,none⟩=some (.pointer (some ⟨T.tb,0,none⟩))) (c2:w.cell? ⟨b2,0,none⟩=some (.int .i64 (hd T pos c)))
  (hQ:∀W g cap,Blk tb #[p1,p2,.slice (some ⟨g,0,none⟩) (n0+(walk m c).length) cap] 41 W->W.ownsRow B 3 1 (.slice (some ⟨g,0,none⟩) (n0+(walk m c).length) cap) (n0+(walk m c).length) (bw_ hs++(List.range (walk m c).length).map (fun i=>Value.int .i64 (hd T pos ((walk m c).getD i 0))))->(g=g0\/w.heap.size<=g)->H.Frame (fun k=>k=g0\/k=tb) w W->W.heap[w.heap.size]?=some (.deferred (some [])) →
   Q .normal { tmps:=#[x0,x1,x2,.pointer (some ⟨Bs,0,none⟩),x4,x5,x6,x7,x8,x9,x10,x11,x12,x13,x14,x15,x16,x17,x18,x19,x20,x21,x22,x23,x24,x25,x26,x27,x28,x29,x30,x31,x32,x33,x34,x35,x36,x37,x38,x39,x40,x41,x42,x43,x44,x45,x46,x47,x48,x49,x50,x51,x52,x53,x54,x55,x56,x57,x58,x59,x60,x61,x62,x63,x64,x65,x66,x67,x68,x69,x70,x71,x72,x73,x74,x75,x76,x77,x78,x79,x80,x81,x82,x83,x84,x85,x86,x87,x88,x89,x90,x91,x92,x93,x94,x95,x96,x97,x98,x99,x100,x101,x102,x103,x104,x105,x106,x107,x108,x109,x110,x111],defers:=[{ target:=.collected w.heap.size,args:=#[] }] } W) :
  (Code.rangeFunc (Operand.tmp 75) #[76] fu_ jH_).wpIn Fence.wide n Tryz.prog Q { tmps:=#[x0,x1,x2,.pointer (some ⟨Bs,0,none⟩),x4,x5,x6,x7,x8,x9,x10,x11,x12,x13,x14,x15,x16,x17,x18,x19,x20,x21,x22,x23,x24,x25,x26,x27,x28,x29,x30,x31,x32,x33,x34,x35,x36,x37,x38,x39,x40,x41,x42,x43,x44,x45,x46,x47,x48,x49,x50,x51,x52,x53,x54,x55,x56,x57,x58,x59,x60,x61,x62,x63,x64,x65,x66,x67,x68,x69,x70,x71,x72,x73,x74,x75,x76,x77,x78,x79,x80,x81,x82,x83,x84,x85,x86,x87,x88,x89,x90,x91,x92,x93,x94,x95,x96,x97,x98,x99,x100,x101,x102,x103,x104,x105,x106,x107,x108,x109,x110,x111],defers:=[] } w:=by
 have hBg:Bs≠g0/\Bs≠tb:=⟨fun e=>ak_ hr hBx (by decide) (by rw[e];rfl),fun e=>by rw[e]at hBx;exact absurd (bM_ hBx hb) (by decide)⟩;refine wpIn_rangeFunc ?_;intro fn hfn
 obtain⟨W1,hW1⟩:∃W1,(w.alloc (.deferred (some []))).alloc (.loop (h8_ fn #[x0,x1,x2,.pointer (some ⟨Bs,0,none⟩),x4,x5,x6,x7,x8,x9,x10,x11,x12,x13,x14,x15,x16,x17,x18,x19,x20,x21,x22,x23,x24,x25,x26,x27,x28,x29,x30,x31,x32,x33,x34,x35,x36,x37,x38,x39,x40,x41,x42,x43,x44,x45,x46,x47,x48,x49,x50,x51,x52,x53,x54,x55,x56,x57,x58,x59,x60,x61,x62,x63,x64,x65,x66,x67,x68,x69,x70,x71,x72,x73,x74,x75,x76,x77,x78,x79,x80,x81,x82,x83,x84,x85,x86,x87,x88,x89,x90,x91,x92,x93,x94,x95,x96,x97,x98,x99,x100,x101,x102,x103,x104,x105,x106,x107,x108,x109,x110,x111] w.heap.size .ready none))=W1:=⟨_,rfl⟩;have hb1':Below w.heap.size w W1:=by rw[<-hW1];exact((Below.refl w.heap.size w).alloc (nl_) _).alloc (by simp) _
 have hs1:W1.heap.size=w.heap.size+2:=by rw[<-hW1];simp
 have hM:CpAt w fn #[x0,x1,x2,.pointer (some ⟨Bs,0,none⟩),x4,x5,x6,x7,x8,x9,x10,x11,x12,x13,x14,x15,x16,x17,x18,x19,x20,x21,x22,x23,x24,x25,x26,x27,x28,x29,x30,x31,x32,x33,x34,x35,x36,x37,x38,x39,x40,x41,x42,x43,x44,x45,x46,x47,x48,x49,x50,x51,x52,x53,x54,x55,x56,x57,x58,x59,x60,x61,x62,x63,x64,x65,x66,x67,x68,x69,x70,x71,x72,x73,x74,x75,x76,x77,x78,x79,x80,x81,x82,x83,x84,x85,x86,x87,x88,x89,x90,x91,x92,x93,x94,x95,x96,x97,x98,x99,x100,x101,x102,x103,x104,x105,x106,x107,x108,x109,x110,x111] (w.heap.size+1) w.heap.size tb B n0 g0 p1 p2 hs (fun i=>hd T pos ((walk m c).getD i 0)) 0 W1:=
  ⟨⟨g0,cap0,hb.below hb1',by simpa using own_below hr hb1',Or.inl rfl⟩,
   by rw[<-hW1];have:=World.alloc_heap_new (w.alloc (.deferred (some []))) (.loop (h8_ fn #[x0,x1,x2,.pointer (some ⟨Bs,0,none⟩),x4,x5,x6,x7,x8,x9,x10,x11,x12,x13,x14,x15,x16,x17,x18,x19,x20,x21,x22,x23,x24,x25,x26,x27,x28,x29,x30,x31,x32,x33,x34,x35,x36,x37,x38,x39,x40,x41,x42,x43,x44,x45,x46,x47,x48,x49,x50,x51,x52,x53,x54,x55,x56,x57,x58,x59,x60,x61,x62,x63,x64,x65,x66,x67,x68,x69,x70,x71,x72,x73,x74,x75,x76,x77,x78,x79,x80,x81,x82,x83,x84,x85,x86,x87,x88,x89,x90,x91,x92,x93,x94,x95,x96,x97,x98,x99,x100,x101,x102,x103,x104,x105,x106,x107,x108,x109,x110,x111] w.heap.size .ready none));rwa [World.size_alloc]at this,
   by rw[<-hW1];exact(Below.heap_alloc _ _ _ (by simp)).trans (World.alloc_heap_new w _),H.Frame.of hb1'⟩
 refine⟨w.heap.size+1,[{ target:=.collected w.heap.size,args:=#[] }],W1,{ target:=.fn (.func 98) #[.pointer (some ⟨b1,0,none⟩),.pointer (some ⟨b2,0,none⟩)],args:=#[.func (.yield (w.heap.size+1)) #[] #[]] },W1,98,
  #[.func (.yield (w.heap.size+1)) #[] #[]] ++ #[.pointer (some ⟨b1,0,none⟩),.pointer (some ⟨b2,0,none⟩)],W1,?_,?_,?_,?_,fun h=>(by cases h),?_⟩
 ·rw[<-hW1];exact run_enterLoop_outer _ _ _ _ _
 ·simp[resolve,go_sem,hx]
 ·intro f' hf';trivial
 ·simp[invoke,go_sem,enters_of Tryz.func98 (by kernel_rfl) rfl]
 ·have K:=nm_ (W0:=w) (fn:=fn) (ts:=#[x0,x1,x2,.pointer (some ⟨Bs,0,none⟩),x4,x5,x6,x7,x8,x9,x10,x11,x12,x13,x14,x15,x16,x17,x18,x19,x20,x21,x22,x23,x24,x25,x26,x27,x28,x29,x30,x31,x32,x33,x34,x35,x36,x37,x38,x39,x40,x41,x42,x43,x44,x45,x46,x47,x48,x49,x50,x51,x52,x53,x54,x55,x56,x57,x58,x59,x60,x61,x62,x63,x64,x65,x66,x67,x68,x69,x70,x71,x72,x73,x74,x75,x76,x77,x78,x79,x80,x81,x82,x83,x84,x85,x86,x87,x88,x89,x90,x91,x92,x93,x94,x95,x96,x97,x98,x99,x100,x101,x102,x103,x104,x105,x106,x107,x108,x109,x110,x111]) (l:=w.heap.size+1) (D:=w.heap.size) (tb:=tb) (B:=B) (n0:=n0) (g0:=g0) (p1:=p1) (p2:=p2) (hs:=hs) (vs:=fun i=>hd T pos ((walk m c).getD i 0)) hT hb hr rfl hn
  refine(kH_ T m pos w hT c hc (w.heap.size+1) (mb_ tb (w.heap.size+1)) _ K
   (fun n' k W hJ hk=>cpYield n' w fn Bs (w.heap.size+1) w.heap.size tb B n0 g0 p1 p2 hs (fun i=>hd T pos ((walk m c).getD i 0)) x0 x1 x2 x4 x5 x6 x7 x8 x9 x10 x11 x12 x13 x14 x15 x16 x17 x18 x19 x20 x21 x22 x23 x24 x25 x26 x27 x28 x29 x30 x31 x32 x33 x34 x35 x36 x37 x38 x39 x40 x41 x42 x43 x44 x45 x46 x47 x48 x49 x50 x51 x52 x53 x54 x55 x56 x57 x58 x59 x60 x61 x62 x63 x64 x65 x66 x67 x68 x69 x70 x71 x72 x73 x74 x75 x76 x77 x78 x79 x80 x81 x82 x83 x84 x85 x86 x87 x88 x89 x90 x91 x92 x93 x94 x95 x96 x97 x98 x99 x100 x101 x102 x103 x104 x105 x106 x107 x108 x109 x110 x111 hBx hBg (by omega) (nl_) hB (by omega) k W hJ (by omega)) _ b1 b2 W1 hM (by omega) (by omega) ((hb1'.cell (p:=⟨b1,0,none⟩) hb1).trans c1) ((hb1'.cell (p:=⟨b2,0,none⟩) hb2).trans c2)).mono ?_
  rintro e W2 ⟨⟨v0,rfl⟩,h2⟩;obtain⟨g,cap,hv,hrow,hgg⟩:=h2.hv;have hend:=run_endLoop (P:=Tryz.prog) h2.L (by simp[h8_]);obtain⟨W3,hW3⟩:∃W3,W2.putObj (w.heap.size+1) (.loop { h8_ fn #[x0,x1,x2,.pointer (some ⟨Bs,0,none⟩),x4,x5,x6,x7,x8,x9,x10,x11,x12,x13,x14,x15,x16,x17,x18,x19,x20,x21,x22,x23,x24,x25,x26,x27,x28,x29,x30,x31,x32,x33,x34,x35,x36,x37,x38,x39,x40,x41,x42,x43,x44,x45,x46,x47,x48,x49,x50,x51,x52,x53,x54,x55,x56,x57,x58,x59,x60,x61,x62,x63,x64,x65,x66,x67,x68,x69,x70,x71,x72,x73,x74,x75,x76,x77,x78,x79,x80,x81,x82,x83,x84,x85,x86,x87,x88,x89,x90,x91,x92,x93,x94,x95,x96,x97,x98,x99,x100,x101,x102,x103,x104,x105,x106,x107,x108,x109,x110,x111] w.heap.size .ready none with state:=.exhausted })=W3:=⟨_,rfl⟩;rw[hW3]at hend
  have hg3:W2.grownBy W3 (some (w.heap.size+1)):=by rw[<-hW3];exact grownBy_putObj_a _ _ _
  have hF3:H.Frame (fun k=>k=w.heap.size+1) W2 W3:=H.Frame.grown (S:=fun k=>k=w.heap.size+1) (H.Frame.refl _ W2) hg3 (fun k e=>by cases e;exact Or.inl rfl);have htl:tb≠w.heap.size+1:=fun e=>by have:=hb.lt;omega
  have hgl:g≠w.heap.size+1:=fun e=>by
   obtain⟨cur,hcc⟩:=aV_ hrow (g:=g) rfl;have h1:W2.heap[g]?=_:=hcc;rw[e,h2.L]at h1
   cases h1
  refine⟨none,W3,hend,?_⟩;exact hQ W3 g cap (hv.frame hF3 htl) (ah_ hrow hF3 (fun g' hg' e=>hgl (by rw[e]at hg';simpa[Value.ownBlock]using hg'))) hgg (h2.frame.trans hF3 (fun b e=>Or.inr (by omega))) ((hF3.block _ (lt_of_block h2.K) (by omega)).trans h2.K)
end A
end
section
open Go.RowKit Go.Sort
namespace A
open H G R
section
variable {w0 w w1 w2 w3:World} {X:Tw} {T':am_} {M':aF_} {m':aa_} {pos':Nat->Nat} {g cap:Nat}
theorem be_.both(h:be_ w0 w X)(hv:X.hv=.slice (some ⟨g,0,none⟩) X.m.length cap)(f1:H.Frame X.T.foot w w1)(g1:Goes w X.T T')(t1:aj_ w1 T' m' pos')(f2:H.Frame X.M.foot w1 w2) :
  aj_ w2 T' m' pos'/\¬T'.foot g/\¬T'.foot X.tb/\Blk X.tb #[.pointer (some ⟨X.T.tb,0,none⟩),.pointer (some ⟨X.M.mb,0,none⟩),.slice (some ⟨g,0,none⟩) X.m.length cap] 41 w2/\w2.ownsRow X.B 3 1 (.slice (some ⟨g,0,none⟩) X.m.length cap) X.m.length (bw_ (hvs X.T X.pos X.m X.m.length)):=by
 have hk:X.hv.ownBlock=some g:=by rw[hv];rfl
 have hm:=h.mid f1;have hf1:∀k,T'.foot k->X.T.foot k\/w.heap.size<=k:=g1.foot;have hX1:∀k,X.foot k->k<w.heap.size:=fun k hk=>h.foot_lt hk;have hap1:∀k,T'.foot k->¬X.M.foot k:=fun k hk hM=>(hf1 k hk).elim (fun e=>h.apart k e hM) (fun e=>by have:=hX1 k (Or.inr (Or.inr (Or.inl hM)));omega);refine⟨⟨al_.frame t1.mem f2 hap1 (fun r hr g hg hS=>e2_ t1.mem hm.model hS r hr hg),t1.fits⟩,fun e=>?_,fun e=>?_,?_,?_⟩
 ·rcases hf1 g e with e|e
  ·exact(h.hap g hk).1 e
  ·have:=hX1 g (Or.inr (Or.inr (Or.inr hk)));omega
 ·rcases hf1 _ e with e|e
  ·exact h.tb_tree e
  ·have:=hX1 X.tb (Or.inl rfl);omega
 ·rw[<-hv];exact hm.blk.frame f2 h.tb_model
 ·rw[<-hv];exact ah_ hm.row f2 (fun g hg hS=>(h.hap g hg).2 hS)
end
theorem m9_{T T':am_}{pos pos':Nat->Nat}{m m':aa_}{a:Nat}(C:dQ_ m m' a)(hb:T'.bs=T.bs)(hs:T'.st=T.st)(hp:∀i,i<m.length->pos' i=pos i) :
  m.length+(walk m' m.length).length=m'.length ∧
  bw_ (hvs T pos m m.length)++(List.range (walk m' m.length).length).map (fun i=>Value.int .i64 (hd T' pos' ((walk m' m.length).getD i 0)))=bw_ (hvs T' pos' m' m'.length):=by
 have hwl:(walk m' m.length).length=m'.length-m.length:=by rw[C.walk,List.length_range']
 have hmore:=C.more;have hsum:m.length+(walk m' m.length).length=m'.length:=by omega
 refine⟨hsum,?_⟩;have hroot:has m' m.length=true:=by unfold G.has;rw[C.root.2.1];rfl
 have e1:hvs T' pos' m' m.length=hvs T pos m m.length:=lL_ hb hs hp (fun i hi=>by unfold G.has;rw[C.old i hi]);have e2:hvs T' pos' m' m'.length=hvs T' pos' m' m.length++(List.range (m'.length-m.length)).map (fun i=>hv1 T' pos' m' (m.length+i)):=by
  unfold hvs
  conv=>lhs;rw[show m'.length=m.length+(m'.length-m.length) by omega,List.range_add,List.map_append,List.map_map]
  rfl
 rw[e2,e1,hwl];unfold bw_;rw[List.map_append,List.map_map]
 congr 1
 refine List.map_congr_left fun i hi=>?_;have hi:=List.mem_range.1 hi;have hg:(walk m' m.length).getD i 0=m.length+i:=by
  rw[C.walk,List.getD_eq_getElem?_getD,List.getElem?_range' (by omega)];simp
 have hh:has m' (m.length+i)=true:=WF.walk_has C.wf m.length hroot (m.length+i) (by rw[C.walk,List.mem_range'_1];omega);show Value.int .i64 _=Value.int .i64 (hv1 T' pos' m' (m.length+i));rw[hg];unfold hv1;rw[if_pos hh]
end A
end
section
open Go.RowKit Go.Sort
namespace A
open H G R
theorem ni_(w0 w:World)(X:Tw)(a:Nat)(deep:Bool)(h:be_ w0 w X)(n1:a<X.m.length)(hfw:X.m.length<=2000)(hha:has X.m a=true)(hk1:(nd X.m a).kind≠1)(hA:∀i,(nd X.m i).attrs.length<=100000)(hA2:∀i,(nd X.M.m i).attrs.length<=100000)(hkeep:Sim (a2_ X.m a deep).2 (a2_ X.M.m a deep).2) :
  Calls Tryz.prog 71 #[.pointer (some ⟨X.tb,0,none⟩),.int .i64 a,.bool deep] w fun e w'=>∃X',e=.returned (.bool true)/\be_ w0 w' X'/\X'.key=X.key/\X'.T.bs=X.T.bs/\X'.T.st=X.T.st/\(∀i,i<X.m.length->X'.pos i=X.pos i)/\X'.m=(a2_ X.m a deep).2/\X'.M.m=(a2_ X.M.m a deep).2:=by
 have hl:=h.pos_len;have hb1:=(Below.refl w.heap.size w).alloc (nl_) (.cells #[.pointer (some ⟨X.tb,0,none⟩)] 27);have HX1:=hi_ (Blk.new w #[.pointer (some ⟨X.tb,0,none⟩)] 27);have H1:=hi_ (h.below hb1);have HB1:=hi_ hb1;obtain⟨g,cap,hv,_,hcap,_⟩:=h.toMid.cells hl;have HV:=hi_ hv;have HSm:=hi_ h.sim;have hwl:=hi_ (fun(k:Nat) (hk:X.foot k)=>h.foot_lt hk);clear hb1;have hr1:a2_ X.m a deep=(0,copyT 128 X.m a deep):=by unfold a2_;rw[if_neg hk1]
 have hr2:a2_ X.M.m a deep=(0,copyT 128 X.M.m a deep):=by unfold a2_;rw[if_neg (by rw[<-HSm.out.kind];exact hk1)]
 rw[hr1,hr2];have hkeep2:=hkeep;rw[hr1,hr2]at hkeep2;obtain⟨C1,hC1⟩:∃C1,C1=copyT 128 X.m a deep:=⟨_,rfl⟩;rw[<-hC1]at hr1 hkeep2 ⊢;refine(callsIn_wide (n:=9)).1 ?_;refine callsIn_of_wp_marks Tryz.func71 rfl trivial ?_ rfl;refine wpIn_wide.2 ?_;simp only[Tryz.ntmps71,List.size_toArray,List.length_cons,List.length_nil,Nat.reduceAdd,Nat.reduceSub,Array.replicate_succ,Array.replicate_zero,List.push_toArray,List.append_toArray,List.nil_append,List.cons_append];go_upto_region 1 with fail
 generalize w.alloc (.cells #[.pointer (some ⟨X.tb,0,none⟩)] 27)=w1 at *;obtain⟨c0,c1,c2,hlt⟩:=cells3 H1.out.blk;rw[hv]at c2;have hbx:=(ad_ HX1.out).1 0;have hbl:=HX1.out.lt;have hz:=H1.out.toMid.get hv n1;have hgl:=hz.2.2;have hai:(a:Int)<(X.m.length:Int):=by omega
 have ha0:(0:Int)<=(a:Int):=by omega
 have D0:=lc_ c0 hlt;have D2:=lc_ c2 hlt;have DB:=lc_ hbx hbl;have QH:=hi_ (fun(i:Nat) W (hM:ab_ W X.M)=>gf_ X.M i W hM);rw[cE_ hha]at hz;have DZ:=fun d:Later w1.heap.size w1=>Later.cell hz.1 hgl d;have hh2:has X.M.m a=true:=by rw[<-HSm.out.has];exact hha
 have HH2:=hi_ hh2;have HK:=hi_ hkeep;have HA:=hi_ hA;have HA2:=hi_ hA2;have hlM:X.M.nodes.length=X.m.length:=by rw[<-X.M.m_len,<-HSm.out.len]
 have HlM:=hi_ hlM;have QN:=hi_ (fun W (hb:Below w1.heap.size w1 W)=>copy_ X.T X.m X.pos a deep W (H1.out.below hb).tree hha (by omega) (fun i _=>HA.out i) H1.out.slots);have QM:=hi_ (fun W (hM:ab_ W X.M) (hbg:(a2_ X.M.m a deep).2.length<=100000)=>mCopy X.M a deep W hM (H1.out.sim.wf H1.out.tree.fits.wf) (by omega) hbg (fun i _=>HA2.out i));rw[hr1]at QN;simp only[if_neg hk1]at QN;rw[hr2]at QM;rw[hr1,hr2]at HK;have hW:=H1.out.tree.fits.wf;have hap0:0<a:=by
  rcases Nat.eq_zero_or_pos a with e|e
  ·exact absurd (by rw[e];exact hW.doc.2.1) hk1
  ·exact e
 have HCp:=hi_ (hW.copyT 128 deep n1 hap0 (WF.low hW 128 a (by have:=hW.depth_pos a;omega)));have hfew2:=f3_ hW hha hap0 deep;have HFw2:Hid ((copyT 128 X.m a deep).length<=4001):=hi_ (by omega);clear hha hh2 hkeep hA hA2 hr1 hr2 hfew2 hW;rw[<-hC1]at HCp HFw2;clear hC1;refine an_ 12 _ _ (by kernel_rfl) (by kernel_rfl) rfl ?_;simp only[List.take_succ_cons,List.take_zero];repeat (go_big_quiet_step (fail))
 refine wq_ (fun dq=>?_);intro K hK;have HD3:=hi_ dq.h;clear D0 D2 DZ DB c0 c1 c2 hlt hbx hbl hz hgl;generalize dq.w=w3 at *;go_simp
 go_at_call 130
 refine(QN.out w3 HD3.out).mono ?_;rintro e w4 ⟨T4,pos4,rfl,hf4,hg4,ht4,hp4,hs4⟩;have H3:=hi_ (H1.out.below HD3.out);have HP4:=hi_ (⟨hf4,hg4,ht4,hp4,hs4⟩:_/\_/\_/\_/\_);have HX3:=hi_ (HX1.out.below HD3.out);have hnb:¬X.T.foot w.heap.size:=fun e=>by have:=hwl.out _ (Or.inr (Or.inl e));omega
 have hnm:¬X.M.foot w.heap.size:=fun e=>by have:=hwl.out _ (Or.inr (Or.inr (Or.inl e)));omega
 have HX4:=hi_ (HX3.out.frame hf4 hnb);have HM4:=hi_ (H3.out.mid hf4);clear hf4 hg4 ht4 hp4 hs4 QN hnb;go_simp
 refine hK _ _ (ar_ ?_);clear hK K;repeat (go_big_quiet_step (fail))
 refine wq_ (fun dq=>?_);have HD5:=hi_ dq.h;generalize dq.w=w5 at *;have HM5:=hi_ (HM4.out.below HD5.out);have HX5:=hi_ (HX4.out.below HD5.out);have HFt:=hi_ (HP4.out.1.below_ HD5.out);have HTr:=hi_ (HP4.out.2.2.1.below HD5.out);obtain⟨c0,c1,c2,hlt⟩:=cells3 HM5.out.blk;have hbx:=(ad_ HX5.out).1 0;obtain⟨m0,m1,m2⟩:=HM5.out.model.top;have Q:=hi_ (QH.out a w5 HM5.out.model);rw[HH2.out]at Q;go_wp2_with fail
 refine Q.out.mono ?_;rintro e w6 ⟨rfl,rfl⟩;have Q2:=hi_ (QM.out w5 HM5.out.model (by have:=HFw2.out;have:=HK.out.len;omega));clear Q QM;go_wp2_with fail
 refine Q2.out.mono ?_;rintro e w7 ⟨M7,rfl,hf7,hm7,hme7,hl7⟩;have HP7:=hi_ (⟨hf7,hm7,hme7,hl7⟩:_/\_/\_/\_);have HM7b:=hi_ (HM5.out.blk.frame hf7 H3.out.tb_model);have HX7:=hi_ (HX5.out.frame hf7 hnm);clear hf7 hm7 hl7 hme7 c0 c1 c2 hlt hbx m0 m1 m2 Q2;obtain⟨c0,c1,c2,hlt⟩:=cells3 HM7b.out;have hbx:=(ad_ HX7.out).1 0;have hbs:=HP4.out.2.1.bs;have hst:=HP4.out.2.1.st;have HdE:Hid (hd T4 pos4 X.m.length=hd X.T pos4 X.m.length):=hi_ (by unfold hd;rw[hbs,hst]);have QW:=hi_ (fun W=>Walk_ X.T.tb (hd X.T pos4 X.m.length) W);have HBo:=hi_ (H3.out.both HV.out HFt.out HP4.out.2.1 HTr.out HP7.out.1);have HHv:=hi_ (m9_ HCp.out hbs hst HP4.out.2.2.2.1);go_wp2_with fail
 refine(QW.out _).mono ?_;rintro e w8 ⟨rfl,rfl⟩;clear QW;have HB8:=hi_ (((Below.refl w7.heap.size w7).alloc (nl_) (.cells #[.pointer (some ⟨X.T.tb,0,none⟩)] 37)).alloc (by simp) (.cells #[.int .i64 (hd X.T pos4 X.m.length)] 3));have hq1:w7.heap.size<((w7.alloc (.cells #[.pointer (some ⟨X.T.tb,0,none⟩)] 37)).alloc (.cells #[.int .i64 (hd X.T pos4 X.m.length)] 3)).heap.size:=by simp;omega
 have hq2:w7.heap.size+1<((w7.alloc (.cells #[.pointer (some ⟨X.T.tb,0,none⟩)] 37)).alloc (.cells #[.int .i64 (hd X.T pos4 X.m.length)] 3)).heap.size:=by simp
 have hq3:World.cell? ((w7.alloc (.cells #[.pointer (some ⟨X.T.tb,0,none⟩)] 37)).alloc (.cells #[.int .i64 (hd X.T pos4 X.m.length)] 3)) ⟨w7.heap.size,0,none⟩=some (.pointer (some ⟨T4.tb,0,none⟩)):=by rw[HP4.out.2.1.tb];simp[go_sem]
 have hq4:World.cell? ((w7.alloc (.cells #[.pointer (some ⟨X.T.tb,0,none⟩)] 37)).alloc (.cells #[.int .i64 (hd X.T pos4 X.m.length)] 3)) ⟨w7.heap.size+1,0,none⟩=some (.int .i64 (hd T4 pos4 X.m.length)):=by rw[HdE.out];simp[go_sem]
 generalize (w7.alloc (.cells #[.pointer (some ⟨X.T.tb,0,none⟩)] 37)).alloc (.cells #[.int .i64 (hd X.T pos4 X.m.length)] 3)=w8 at *;have hB8:X.B<=w8.heap.size:=by
  have h1:=(World.ownsRow.lt HBo.out.2.2.2.2 g rfl);have h2:=HB8.out.size;omega
 have hroot:has C1 X.m.length=true:=by unfold G.has;rw[HCp.out.root.2.1];rfl
 have hC4:=HFw2.out;have hsum:=HHv.out.1;go_wp2_with fail
 refine(wpIn_wide (n:=9)).1 ?_;refine nk_ (n:=9) (w:=w8) (T:=T4) (m:=C1) (pos:=pos4) (c:=X.m.length) (Bs:=w.heap.size) (tb:=X.tb) (B:=X.B) (n0:=X.m.length) (g0:=g) (cap0:=cap) (b1:=w7.heap.size) (b2:=w7.heap.size+1) (p1:=.pointer (some ⟨X.T.tb,0,none⟩)) (p2:=.pointer (some ⟨X.M.mb,0,none⟩)) (hs:=hvs X.T X.pos X.m X.m.length) (hx:=rfl) (hT:=HBo.out.1.below HB8.out) (hc:=hroot) (hBx:=HX7.out.below HB8.out) (hb:=HBo.out.2.2.2.1.below HB8.out) (hr:=own_below HBo.out.2.2.2.2 HB8.out) (hn:=⟨HBo.out.2.1,HBo.out.2.2.1⟩) (hlen:=by omega) (hB:=hB8) (hb1:=hq1) (hb2:=hq2) (c1:=hq3) (c2:=hq4) (hQ:=?_) _ _ _ _ _ _ _ _ _ _ _ _ _ _ _ _ _ _ _ _ _ _ _ _ _ _ _ _ _ _ _ _ _ _ _ _ _ _ _ _ _ _ _ _ _ _ _ _ _ _ _ _ _ _ _ _ _ _ _ _ _ _ _ _ _ _ _ _ _ _ _ _ _ _ _ _ _ _ _ _ _ _ _ _ _ _ _ _ _ _ _ _ _ _ _ _ _ _ _ _ _ _ _ _ _ _ _ _ _ _ _ _
 intro W9 g9 cap9 hv9 hrow9 hgg9 hf9 hk9;rw[HHv.out.2]at hrow9;rw[HHv.out.1]at hv9 hrow9;have hML:M7.nodes.length=C1.length:=by rw[<-M7.m_len,HP7.out.2.2.1,HK.out.len]
 have hgX:X.hv.ownBlock=some g:=by rw[HV.out];rfl
 have hnM:¬M7.foot g/\¬M7.foot X.tb:=⟨H3.out.hv_model HV.out HFt.out.size HP7.out.2.2.2,fun e=>(HP7.out.2.2.2.foot _ e).elim (fun e=>H3.out.tb_model e) (fun e=>by have h1:=H3.out.foot_lt (k:=X.tb) (Or.inl rfl);have h2:=HFt.out.size;omega)⟩;have hM9:ab_ W9 M7:=(HP7.out.2.1.below HB8.out).frame hf9 (fun k hk e=>e.elim (fun e=>hnM.1 (by rw[<-e];exact hk)) (fun e=>hnM.2 (by rw[<-e];exact hk)));have hMb:M7.mb=X.M.mb:=HP7.out.2.2.2.mb;have hX9:=(HX7.out.below HB8.out).frame hf9 (fun e=>e.elim (fun e=>ak_ HBo.out.2.2.2.2 HX7.out (by decide) (by rw[e];rfl)) (fun e=>by have h1:=HX7.out;rw[e]at h1;exact absurd (bM_ h1 HBo.out.2.2.2.1) (by decide)));have hg9D:g9≠w8.heap.size:=fun e=>by
  obtain⟨cur,hcc⟩:=aV_ hrow9 (g:=g9) rfl;have h1:W9.heap[g9]?=_:=hcc;rw[e,hk9]at h1
  cases h1
 have hw78:=HB8.out.size;have htb8:X.tb<w7.heap.size:=HBo.out.2.2.2.1.lt;have QE:=hi_ (fun wF (fr:H.Frame (fun k=>k=w8.heap.size) W9 wF)=>H3.out.more2 (hv':=.slice (some ⟨g9,0,none⟩) C1.length cap9) HFt.out HP4.out.2.1 HTr.out HP7.out.1 HP7.out.2.1 HP7.out.2.2.2 (by rw[HP7.out.2.2.1];exact HK.out) (Nat.le_of_lt HCp.out.more) HP4.out.2.2.2.2
  (((H.Frame.of (S:=fun k=>X.hv.ownBlock=some k\/k=X.tb) HB8.out).trans hf9 (fun b e=>e.elim (fun e=>Or.inl (Or.inl (by rw[hgX,e]))) (fun e=>Or.inl (Or.inr e)))).trans fr (fun b e=>Or.inr (by omega)))
  (hv9.frame fr (by omega)) (ah_ hrow9 fr (fun g' hg' e=>hg9D (by rw[e]at hg';simpa[Value.ownBlock]using hg')))
  (fun k hk=>by
   have hkk:g9=k:=by simpa[Value.ownBlock]using hk
   rw[<-hkk];exact hgg9.imp (fun e=>by rw[e];exact hgX) (fun e=>by omega)))
 have HTb:Hid (T4.bs=X.T.bs/\T4.st=X.T.st/\∀i,i<X.m.length->pos4 i=X.pos i):=hi_ ⟨hbs,hst,HP4.out.2.2.2.1⟩;have HMe:Hid (M7.m=copyT 128 X.M.m a deep):=hi_ HP7.out.2.2.1;obtain⟨c0',c1',c2',hlt9⟩:=cells3 hv9;have hbx9:=(ad_ hX9).1 0;have hbl9:=hX9.lt;obtain⟨m0',_,_⟩:=hM9.top;have hmb9:=hM9.blk.lt;rw[hML,hMb]at m0';rw[hMb]at hmb9;have hmore:=HCp.out.more;have hcell:=(ae_ hrow9).2.2.2 X.m.length (by rw[eB_,fT_];exact hmore);have hcv:(bw_ (hvs T4 pos4 C1 C1.length))[X.m.length]?=some (.int .i64 (hd X.T pos4 X.m.length)):=by
  unfold bw_ hvs;rw[List.getElem?_map,List.getElem?_map,List.getElem?_range hmore];show some (Value.int .i64 (hv1 T4 pos4 C1 X.m.length))=_;unfold hv1;rw[if_pos hroot,HdE.out]
 have hcl:=hcell.1.trans hcv;have hg9l:=(ae_ hrow9).1;have E0:=fun d:Later W9.heap.size W9=>Later.cell c0' hlt9 d;have E1:=fun d:Later W9.heap.size W9=>Later.cell c1' hlt9 d;have E2:=fun d:Later W9.heap.size W9=>Later.cell c2' hlt9 d;have EB:=lc_ hbx9 hbl9;have EM:=fun d:Later W9.heap.size W9=>Later.cell m0' hmb9 d;have EH:=lc_ hcl hg9l;have HK9:=hi_ hk9;have hnn0:(0:Int)<=(X.m.length:Int):=by omega
 have hnn1:(X.m.length:Int)<(C1.length:Int):=by omega
 clear hv9 hrow9 hgg9 hf9 hk9 hM9 hX9 hcell hcv hnM hML;dsimp only;go_upto_region 11 with fail
 go_quiet (fail)
 go_wp2_with fail
 refine⟨by simp,.inl ⟨_,_,rfl,run_takeDeferred (show(W9.drewN nq).heap[w8.heap.size]?=some (.deferred (some []))from HK9.out),?_⟩⟩;have fr9:H.Frame (fun k=>k=w8.heap.size) W9 ((W9.drewN nq).putObj w8.heap.size (.deferred none)):=H.Frame.grown (S:=fun k=>k=w8.heap.size) (H.Frame.of (bdN (Below.refl W9.heap.size W9) nq)) (grownBy_putObj_a _ _ _) (fun k e=>by cases e;exact Or.inl rfl);exact⟨_,results_tmp rfl _ _ _,_,rfl,QE.out _ fr9,rfl,HTb.out.1,HTb.out.2.1,HTb.out.2.2,rfl,HMe.out⟩
end A
end
end Go.Proofs.YtinphfpdfodkkaaGreatDoor
