/- Texts of the proof. -/
import Derived.Test.YtinphfpdfodkkaaGreatDoorM40
set_option linter.unusedVariables false
set_option linter.unusedSimpArgs false
set_option maxHeartbeats 8000000
set_option maxRecDepth 100000
namespace Go.Proofs.YtinphfpdfodkkaaGreatDoor
section
open Go.RowKit Go.Shelf Go.Maps
attribute [local go_sem] Oper.semAt_some
namespace A
open H G R
theorem cp_range(n:Nat)(Q:Exit->Act->World->Prop)(w:World)(T:TMem)(m:Model)(pos:Nat->Nat)(c Bs tb B n0 g0 cap0 b1 b2:Nat)(p1 p2:Value)(hs:List Int)(x0 x1 x2 x4 x5 x6 x7 x8 x9 x10 x11 x12 x13 x14 x15 x16 x17 x18 x19 x20 x21 x22 x23 x24 x25 x26 x27 x28 x29 x30 x31 x32 x33 x34 x35 x36 x37 x38 x39 x40 x41 x42 x43 x44 x45 x46 x47 x48 x49 x50 x51 x52 x53 x54 x55 x56 x57 x58 x59 x60 x61 x62 x63 x64 x65 x66 x67 x68 x69 x70 x71 x72 x73 x74 x75 x76 x77 x78 x79 x80 x81 x82 x83 x84 x85 x86 x87 x88 x89 x90 x91 x92 x93 x94 x95 x96 x97 x98 x99 x100 x101 x102 x103 x104 x105 x106 x107 x108 x109 x110 x111:Value)
  (hx:x75=.func (.func 98) #[] #[.pointer (some ⟨b1,0,none⟩),.pointer (some ⟨b2,0,none⟩)])
  (hT:TreeIs w T m pos) (hc:has m c=true) (hBx:Blk Bs #[.pointer (some ⟨tb,0,none⟩)] 27 w) (hb:Blk tb #[p1,p2,.slice (some ⟨g0,0,none⟩) n0 cap0] 41 w)
  (hr:w.ownsRow B 3 1 (.slice (some ⟨g0,0,none⟩) n0 cap0) n0 (intVs hs)) (hn:¬T.foot g0/\¬T.foot tb) (hlen:n0+(walk m c).length<=100000) (hB:B<=w.heap.size)
  (hb1:b1<w.heap.size) (hb2:b2<w.heap.size) (c1:w.cell? ⟨b1,0,none⟩=some (.pointer (some ⟨T.tb,0,none⟩))) (c2:w.cell? ⟨b2,0,none⟩=some (.int .i64 (hd T pos c)))
  (hQ:∀W g cap,Blk tb #[p1,p2,.slice (some ⟨g,0,none⟩) (n0+(walk m c).length) cap] 41 W->W.ownsRow B 3 1 (.slice (some ⟨g,0,none⟩) (n0+(walk m c).length) cap) (n0+(walk m c).length) (intVs hs++(List.range (walk m c).length).map (fun i=>Value.int .i64 (hd T pos ((walk m c).getD i 0))))->(g=g0\/w.heap.size<=g)->H.Frame (fun k=>k=g0\/k=tb) w W->W.heap[w.heap.size]?=some (.deferred (some [])) →
   Q .normal { tmps:=#[x0,x1,x2,.pointer (some ⟨Bs,0,none⟩),x4,x5,x6,x7,x8,x9,x10,x11,x12,x13,x14,x15,x16,x17,x18,x19,x20,x21,x22,x23,x24,x25,x26,x27,x28,x29,x30,x31,x32,x33,x34,x35,x36,x37,x38,x39,x40,x41,x42,x43,x44,x45,x46,x47,x48,x49,x50,x51,x52,x53,x54,x55,x56,x57,x58,x59,x60,x61,x62,x63,x64,x65,x66,x67,x68,x69,x70,x71,x72,x73,x74,x75,x76,x77,x78,x79,x80,x81,x82,x83,x84,x85,x86,x87,x88,x89,x90,x91,x92,x93,x94,x95,x96,x97,x98,x99,x100,x101,x102,x103,x104,x105,x106,x107,x108,x109,x110,x111],defers:=[{ target:=.collected w.heap.size,args:=#[] }] } W) :
  (Code.rangeFunc (Operand.tmp 75) #[76] cpAssign cpBody).wpIn Fence.wide n Tryz.prog Q { tmps:=#[x0,x1,x2,.pointer (some ⟨Bs,0,none⟩),x4,x5,x6,x7,x8,x9,x10,x11,x12,x13,x14,x15,x16,x17,x18,x19,x20,x21,x22,x23,x24,x25,x26,x27,x28,x29,x30,x31,x32,x33,x34,x35,x36,x37,x38,x39,x40,x41,x42,x43,x44,x45,x46,x47,x48,x49,x50,x51,x52,x53,x54,x55,x56,x57,x58,x59,x60,x61,x62,x63,x64,x65,x66,x67,x68,x69,x70,x71,x72,x73,x74,x75,x76,x77,x78,x79,x80,x81,x82,x83,x84,x85,x86,x87,x88,x89,x90,x91,x92,x93,x94,x95,x96,x97,x98,x99,x100,x101,x102,x103,x104,x105,x106,x107,x108,x109,x110,x111],defers:=[] } w:=by
 have hBg:Bs≠g0/\Bs≠tb:=⟨fun e=>own_not hr hBx (by decide) (by rw[e];rfl),fun e=>by rw[e]at hBx;exact absurd (blk_type hBx hb) (by decide)⟩;refine wpIn_rangeFunc ?_;intro fn hfn
 obtain⟨W1,hW1⟩:∃W1,(w.alloc (.deferred (some []))).alloc (.loop (cpRec fn #[x0,x1,x2,.pointer (some ⟨Bs,0,none⟩),x4,x5,x6,x7,x8,x9,x10,x11,x12,x13,x14,x15,x16,x17,x18,x19,x20,x21,x22,x23,x24,x25,x26,x27,x28,x29,x30,x31,x32,x33,x34,x35,x36,x37,x38,x39,x40,x41,x42,x43,x44,x45,x46,x47,x48,x49,x50,x51,x52,x53,x54,x55,x56,x57,x58,x59,x60,x61,x62,x63,x64,x65,x66,x67,x68,x69,x70,x71,x72,x73,x74,x75,x76,x77,x78,x79,x80,x81,x82,x83,x84,x85,x86,x87,x88,x89,x90,x91,x92,x93,x94,x95,x96,x97,x98,x99,x100,x101,x102,x103,x104,x105,x106,x107,x108,x109,x110,x111] w.heap.size .ready none))=W1:=⟨_,rfl⟩;have hb1':Below w.heap.size w W1:=by rw[<-hW1];exact((Below.refl w.heap.size w).alloc (Nat.le_refl _) _).alloc (by simp) _
 have hs1:W1.heap.size=w.heap.size+2:=by rw[<-hW1];simp
 have hM:CpAt w fn #[x0,x1,x2,.pointer (some ⟨Bs,0,none⟩),x4,x5,x6,x7,x8,x9,x10,x11,x12,x13,x14,x15,x16,x17,x18,x19,x20,x21,x22,x23,x24,x25,x26,x27,x28,x29,x30,x31,x32,x33,x34,x35,x36,x37,x38,x39,x40,x41,x42,x43,x44,x45,x46,x47,x48,x49,x50,x51,x52,x53,x54,x55,x56,x57,x58,x59,x60,x61,x62,x63,x64,x65,x66,x67,x68,x69,x70,x71,x72,x73,x74,x75,x76,x77,x78,x79,x80,x81,x82,x83,x84,x85,x86,x87,x88,x89,x90,x91,x92,x93,x94,x95,x96,x97,x98,x99,x100,x101,x102,x103,x104,x105,x106,x107,x108,x109,x110,x111] (w.heap.size+1) w.heap.size tb B n0 g0 p1 p2 hs (fun i=>hd T pos ((walk m c).getD i 0)) 0 W1:=
  ⟨⟨g0,cap0,hb.below hb1',by simpa using own_below hr hb1',Or.inl rfl⟩,
   by rw[<-hW1];have:=World.alloc_heap_new (w.alloc (.deferred (some []))) (.loop (cpRec fn #[x0,x1,x2,.pointer (some ⟨Bs,0,none⟩),x4,x5,x6,x7,x8,x9,x10,x11,x12,x13,x14,x15,x16,x17,x18,x19,x20,x21,x22,x23,x24,x25,x26,x27,x28,x29,x30,x31,x32,x33,x34,x35,x36,x37,x38,x39,x40,x41,x42,x43,x44,x45,x46,x47,x48,x49,x50,x51,x52,x53,x54,x55,x56,x57,x58,x59,x60,x61,x62,x63,x64,x65,x66,x67,x68,x69,x70,x71,x72,x73,x74,x75,x76,x77,x78,x79,x80,x81,x82,x83,x84,x85,x86,x87,x88,x89,x90,x91,x92,x93,x94,x95,x96,x97,x98,x99,x100,x101,x102,x103,x104,x105,x106,x107,x108,x109,x110,x111] w.heap.size .ready none));rwa [World.size_alloc]at this,
   by rw[<-hW1];exact(Below.heap_alloc _ _ _ (by simp)).trans (World.alloc_heap_new w _),H.Frame.of hb1'⟩
 refine⟨w.heap.size+1,[{ target:=.collected w.heap.size,args:=#[] }],W1,{ target:=.fn (.func 98) #[.pointer (some ⟨b1,0,none⟩),.pointer (some ⟨b2,0,none⟩)],args:=#[.func (.yield (w.heap.size+1)) #[] #[]] },W1,98,
  #[.func (.yield (w.heap.size+1)) #[] #[]] ++ #[.pointer (some ⟨b1,0,none⟩),.pointer (some ⟨b2,0,none⟩)],W1,?_,?_,?_,?_,fun h=>(by cases h),?_⟩
 ·rw[<-hW1];exact run_enterLoop_outer _ _ _ _ _
 ·simp[resolve,go_sem,hx]
 ·intro f' hf';trivial
 ·simp[invoke,go_sem,enters_of Tryz.func98 (by kernel_rfl) rfl]
 ·have K:=cp_keeps (W0:=w) (fn:=fn) (ts:=#[x0,x1,x2,.pointer (some ⟨Bs,0,none⟩),x4,x5,x6,x7,x8,x9,x10,x11,x12,x13,x14,x15,x16,x17,x18,x19,x20,x21,x22,x23,x24,x25,x26,x27,x28,x29,x30,x31,x32,x33,x34,x35,x36,x37,x38,x39,x40,x41,x42,x43,x44,x45,x46,x47,x48,x49,x50,x51,x52,x53,x54,x55,x56,x57,x58,x59,x60,x61,x62,x63,x64,x65,x66,x67,x68,x69,x70,x71,x72,x73,x74,x75,x76,x77,x78,x79,x80,x81,x82,x83,x84,x85,x86,x87,x88,x89,x90,x91,x92,x93,x94,x95,x96,x97,x98,x99,x100,x101,x102,x103,x104,x105,x106,x107,x108,x109,x110,x111]) (l:=w.heap.size+1) (D:=w.heap.size) (tb:=tb) (B:=B) (n0:=n0) (g0:=g0) (p1:=p1) (p2:=p2) (hs:=hs) (vs:=fun i=>hd T pos ((walk m c).getD i 0)) hT hb hr rfl hn
  refine(walk12_in T m pos w hT c hc (w.heap.size+1) (cpOwn tb (w.heap.size+1)) _ K
   (fun n' k W hJ hk=>cpYield n' w fn Bs (w.heap.size+1) w.heap.size tb B n0 g0 p1 p2 hs (fun i=>hd T pos ((walk m c).getD i 0)) x0 x1 x2 x4 x5 x6 x7 x8 x9 x10 x11 x12 x13 x14 x15 x16 x17 x18 x19 x20 x21 x22 x23 x24 x25 x26 x27 x28 x29 x30 x31 x32 x33 x34 x35 x36 x37 x38 x39 x40 x41 x42 x43 x44 x45 x46 x47 x48 x49 x50 x51 x52 x53 x54 x55 x56 x57 x58 x59 x60 x61 x62 x63 x64 x65 x66 x67 x68 x69 x70 x71 x72 x73 x74 x75 x76 x77 x78 x79 x80 x81 x82 x83 x84 x85 x86 x87 x88 x89 x90 x91 x92 x93 x94 x95 x96 x97 x98 x99 x100 x101 x102 x103 x104 x105 x106 x107 x108 x109 x110 x111 hBx hBg (by omega) (Nat.le_refl _) hB (by omega) k W hJ (by omega)) _ b1 b2 W1 hM (by omega) (by omega) ((hb1'.cell (p:=⟨b1,0,none⟩) hb1).trans c1) ((hb1'.cell (p:=⟨b2,0,none⟩) hb2).trans c2)).mono ?_
  rintro e W2 ⟨⟨v0,rfl⟩,h2⟩;obtain⟨g,cap,hv,hrow,hgg⟩:=h2.hv;have hend:=run_endLoop (P:=Tryz.prog) h2.L (by simp[cpRec]);obtain⟨W3,hW3⟩:∃W3,W2.putObj (w.heap.size+1) (.loop { cpRec fn #[x0,x1,x2,.pointer (some ⟨Bs,0,none⟩),x4,x5,x6,x7,x8,x9,x10,x11,x12,x13,x14,x15,x16,x17,x18,x19,x20,x21,x22,x23,x24,x25,x26,x27,x28,x29,x30,x31,x32,x33,x34,x35,x36,x37,x38,x39,x40,x41,x42,x43,x44,x45,x46,x47,x48,x49,x50,x51,x52,x53,x54,x55,x56,x57,x58,x59,x60,x61,x62,x63,x64,x65,x66,x67,x68,x69,x70,x71,x72,x73,x74,x75,x76,x77,x78,x79,x80,x81,x82,x83,x84,x85,x86,x87,x88,x89,x90,x91,x92,x93,x94,x95,x96,x97,x98,x99,x100,x101,x102,x103,x104,x105,x106,x107,x108,x109,x110,x111] w.heap.size .ready none with state:=.exhausted })=W3:=⟨_,rfl⟩;rw[hW3]at hend
  have hg3:W2.grownBy W3 (some (w.heap.size+1)):=by rw[<-hW3];exact grownBy_putObj_a _ _ _
  have hF3:H.Frame (fun k=>k=w.heap.size+1) W2 W3:=H.Frame.grown (S:=fun k=>k=w.heap.size+1) (H.Frame.refl _ W2) hg3 (fun k e=>by cases e;exact Or.inl rfl);have htl:tb≠w.heap.size+1:=fun e=>by have:=hb.lt;omega
  have hgl:g≠w.heap.size+1:=fun e=>by
   obtain⟨cur,hcc⟩:=own_type hrow (g:=g) rfl;have h1:W2.heap[g]?=_:=hcc;rw[e,h2.L]at h1
   cases h1
  refine⟨none,W3,hend,?_⟩;exact hQ W3 g cap (hv.frame hF3 htl) (own_frame hrow hF3 (fun g' hg' e=>hgl (by rw[e]at hg';simpa[Value.ownBlock]using hg'))) hgg (h2.frame.trans hF3 (fun b e=>Or.inr (by omega))) ((hF3.block _ (lt_of_block h2.K) (by omega)).trans h2.K)
end A
end
end Go.Proofs.YtinphfpdfodkkaaGreatDoor
