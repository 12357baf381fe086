/- Texts. -/
import Derived.Test.YtinphfpdfodkkaaGreatDoorP32
set_option linter.unusedVariables false
set_option linter.unusedSimpArgs false
set_option maxHeartbeats 8000000
set_option maxRecDepth 100000
namespace Go.Proofs.YtinphfpdfodkkaaGreatDoor
section
open Go.RowKit Go.Shelf Go.Maps
attribute [local go_sem] Oper.semAt_some
namespace A
open H G R
def fu_ : Code := (Code.region 9 #[{ dst := some 11, op := Op.assign (Operand.tmp 76), type := 3, pos := "law.go:174", after := #[], guard := none }] false)
def jH_ : Code := (Code.block 1 (Code.region 10 #[{ dst := some 77, op := Op.load 27 (Operand.tmp 3), type := 27, pos := "law.go:175", after := #[], guard := none }, { dst := some 78, op := Op.load 27 (Operand.tmp 3), type := 27, pos := "law.go:175", after := #[], guard := none }, { dst := some 79, op := Op.nilCheck (Operand.tmp 78), type := 0, pos := "law.go:175", after := #[{ on := 1, ground := Ground.data }], guard := none }, { dst := some 80, op := Op.fieldAddr 41 (Operand.tmp 79) 2, type := 0, pos := "law.go:175", after := #[{ on := 2, ground := Ground.data }], guard := none }, { dst := some 81, op := Op.load 39 (Operand.tmp 80), type := 39, pos := "law.go:175", after := #[{ on := 3, ground := Ground.data }], guard := none }, { dst := some 82, op := Op.move (Operand.tmp 11), type := 3, pos := "law.go:175", after := #[], guard := none }, { dst := some 83, op := Op.buildSlice 39 1 #[(0, Operand.tmp 82)], type := 39, pos := "law.go:175", after := #[{ on := 5, ground := Ground.data }], guard := none }, { dst := some 84, op := Op.call { callee := Callee.builtin Builtin.append, args := #[Operand.tmp 81, Operand.tmp 83], argTypes := #[39, 39] }, type := 39, pos := "law.go:175", after := #[{ on := 4, ground := Ground.data }, { on := 6, ground := Ground.data }], guard := none }, { dst := some 85, op := Op.nilCheck (Operand.tmp 77), type := 0, pos := "law.go:175", after := #[{ on := 0, ground := Ground.data }, { on := 0, ground := Ground.phase }, { on := 1, ground := Ground.phase }, { on := 2, ground := Ground.phase }, { on := 3, ground := Ground.phase }, { on := 4, ground := Ground.phase }, { on := 5, ground := Ground.phase }, { on := 6, ground := Ground.phase }, { on := 7, ground := Ground.phase }], guard := none }, { dst := some 86, op := Op.fieldAddr 41 (Operand.tmp 85) 2, type := 0, pos := "law.go:175", after := #[{ on := 8, ground := Ground.data }, { on := 0, ground := Ground.phase }, { on := 1, ground := Ground.phase }, { on := 2, ground := Ground.phase }, { on := 3, ground := Ground.phase }, { on := 4, ground := Ground.phase }, { on := 5, ground := Ground.phase }, { on := 6, ground := Ground.phase }, { on := 7, ground := Ground.phase }], guard := none }, { dst := none, op := Op.store 39 (Operand.tmp 86) (Operand.tmp 84), type := 0, pos := "law.go:175", after := #[{ on := 9, ground := Ground.data }, { on := 7, ground := Ground.data }, { on := 7, ground := Ground.chain }, { on := 0, ground := Ground.phase }, { on := 1, ground := Ground.phase }, { on := 2, ground := Ground.phase }, { on := 3, ground := Ground.phase }, { on := 4, ground := Ground.phase }, { on := 5, ground := Ground.phase }, { on := 6, ground := Ground.phase }, { on := 7, ground := Ground.phase }], guard := none }] true))
def h8_(fn:FuncId)(ts:Array Value)(D:Nat)(st:LoopState)(pend:Option Code):Loop:=
 { state:=st,pending:=pend,fn,tmps:=ts,params:=#[76],assign:=fu_,body:=jH_,defers:=D }
structure CpAt(W0:World)(fn:FuncId)(ts:Array Value)(l D tb B n0 g0:Nat)(p1 p2:Value)(hs:List Int)(vs:Nat->Int)(k:Nat)(W:World):Prop where
 hv:∃g cap,Blk tb #[p1,p2,.slice (some ⟨g,0,none⟩) (n0+k) cap] 41 W/\W.ownsRow B 3 1 (.slice (some ⟨g,0,none⟩) (n0+k) cap) (n0+k) (bw_ hs++(List.range k).map (fun i=>Value.int .i64 (vs i)))/\(g=g0\/W0.heap.size<=g)
 L:W.heap[l]?=some (.loop (h8_ fn ts D .ready none))
 K:W.heap[D]?=some (.deferred (some []))
 frame:H.Frame (fun k=>k=g0\/k=tb) W0 W
def mb_(tb l:Nat)(W:World)(b:Nat):Prop:=b=tb\/b=l\/∃c0 c1 v,Blk tb #[c0,c1,v] 41 W/\v.ownBlock=some b
theorem blk_inj{g:Nat}{cs ds:Array Value}{t u:TypeId}{w:World}(h:Blk g cs t w)(k:Blk g ds u w):cs=ds:=by
 have h1:w.heap[g]?=some (.cells cs t (0,0)):=h;have h2:w.heap[g]?=some (.cells ds u (0,0)):=k;rw[h1]at h2;injection h2 with h2
 injection h2
theorem cp_tree{W0 W:World}{T:am_}{m:aa_}{pos:Nat->Nat}{tb B g0 n:Nat}{cs:Array Value}{v:Value}{xs:List Value}(hT:aj_ W0 T m pos)(hb:Blk tb cs 41 W0)(hr:W0.ownsRow B 3 1 v n xs)(hg:v.ownBlock=some g0)(hn:¬T.foot g0/\¬T.foot tb)(f:H.Frame (fun k=>k=g0\/k=tb) W0 W):aj_ W T m pos:=
 ⟨al_.frame hT.mem f (fun k hk hS=>hS.elim (fun e=>hn.1 (by rw[<-e];exact hk)) (fun e=>hn.2 (by rw[<-e];exact hk))) (fun r hr' g hg' hS=>hS.elim (fun e=>cy_ hT.mem hr (by decide) hg r hr' (by rw[<-e];exact hg')) (fun e=>hj_ hT.mem hb (by decide) r hr' (by rw[<-e];exact hg'))),hT.fits⟩
section
variable {W0:World} {fn:FuncId} {ts:Array Value} {l D tb B n0 g0:Nat} {p1 p2:Value} {hs:List Int} {vs:Nat->Int} {T:am_} {m:aa_} {pos:Nat->Nat}
theorem bE_{W:World}{g n cap:Nat}(hb:Blk tb #[p1,p2,.slice (some ⟨g,0,none⟩) n cap] 41 W)(b:Nat):mb_ tb l W b↔b=tb\/b=l\/b=g:=by
 constructor
 ·rintro(e|e|⟨c0,c1,v,h1,h2⟩)
  ·exact Or.inl e
  ·exact Or.inr (Or.inl e)
  ·have h3:=blk_inj hb h1
   have h4:v=.slice (some ⟨g,0,none⟩) n cap:=by
    have h5:=congrArg Array.toList h3;simp only[List.cons.injEq]at h5;exact h5.2.2.1.symm
   rw[h4]at h2
   right;right
   have:g=b:=by simpa[Value.ownBlock]using h2
   exact this.symm
 ·rintro(e|e|e)
  ·exact Or.inl e
  ·exact Or.inr (Or.inl e)
  ·exact Or.inr (Or.inr ⟨_,_,_,hb,by rw[e];rfl⟩)
theorem CpAt.go{k:Nat}{W W':World}(h:CpAt W0 fn ts l D tb B n0 g0 p1 p2 hs vs k W)(b:Below W.heap.size W W'):CpAt W0 fn ts l D tb B n0 g0 p1 p2 hs vs k W':=by
 obtain⟨g,cap,h1,h2,h3⟩:=h.hv;exact⟨⟨g,cap,h1.below b,own_below h2 b,h3⟩,(b.block _ (lt_of_block h.L)).trans h.L,(b.block _ (lt_of_block h.K)).trans h.K,h.frame.below_ b⟩
theorem nm_{v0:Value}{nn:Nat}{xs:List Value}{cs:Array Value}(hT:aj_ W0 T m pos)(hb:Blk tb cs 41 W0)(hr:W0.ownsRow B 3 1 v0 nn xs)(hg:v0.ownBlock=some g0)(hn:¬T.foot g0/\¬T.foot tb) :
  ms_ (mb_ tb l) (CpAt W0 fn ts l D tb B n0 g0 p1 p2 hs vs) T m pos:=by
 refine⟨fun k W W' h b=>h.go b,fun k W h=>cp_tree hT hb hr hg hn h.frame,fun k W b h ho=>?_,fun k W W' b h hb' ho=>?_⟩
 ·obtain⟨g,cap,h1,h2,h3⟩:=h.hv
  rcases(bE_ h1 b).1 ho with e|e|e
  ·rw[e];exact h1.lt
  ·rw[e];exact lt_of_block h.L
  ·rw[e];exact(ae_ h2).1
 ·obtain⟨g,cap,h1,h2,h3⟩:=h.hv
  exact Or.inl ((bE_ h1 b).2 ((bE_ (h1.below hb') b).1 ho))
end
def CpS(Bs tb g n cap:Nat)(w':World):Prop:=w'.cell? ⟨Bs,0,none⟩=some (.pointer (some ⟨tb,0,none⟩))/\w'.cell? ⟨tb,2,none⟩=some (.slice (some ⟨g,0,none⟩) n cap)
theorem cpYield(mm:Nat)(W0:World)(fn:FuncId)(Bs l D tb B n0 g0:Nat)(p1 p2:Value)(hs:List Int)(vs:Nat->Int)(x0 x1 x2 x4 x5 x6 x7 x8 x9 x10 x11 x12 x13 x14 x15 x16 x17 x18 x19 x20 x21 x22 x23 x24 x25 x26 x27 x28 x29 x30 x31 x32 x33 x34 x35 x36 x37 x38 x39 x40 x41 x42 x43 x44 x45 x46 x47 x48 x49 x50 x51 x52 x53 x54 x55 x56 x57 x58 x59 x60 x61 x62 x63 x64 x65 x66 x67 x68 x69 x70 x71 x72 x73 x74 x75 x76 x77 x78 x79 x80 x81 x82 x83 x84 x85 x86 x87 x88 x89 x90 x91 x92 x93 x94 x95 x96 x97 x98 x99 x100 x101 x102 x103 x104 x105 x106 x107 x108 x109 x110 x111:Value)(hBx:Blk Bs #[.pointer (some ⟨tb,0,none⟩)] 27 W0)(hBg:Bs≠g0/\Bs≠tb)(h0l:W0.heap.size<=l)(h0D:W0.heap.size<=D)(hB:B<=W0.heap.size)(hDl:D≠l)
  (k:Nat) (W:World) (h:CpAt W0 fn #[x0,x1,x2,.pointer (some ⟨Bs,0,none⟩),x4,x5,x6,x7,x8,x9,x10,x11,x12,x13,x14,x15,x16,x17,x18,x19,x20,x21,x22,x23,x24,x25,x26,x27,x28,x29,x30,x31,x32,x33,x34,x35,x36,x37,x38,x39,x40,x41,x42,x43,x44,x45,x46,x47,x48,x49,x50,x51,x52,x53,x54,x55,x56,x57,x58,x59,x60,x61,x62,x63,x64,x65,x66,x67,x68,x69,x70,x71,x72,x73,x74,x75,x76,x77,x78,x79,x80,x81,x82,x83,x84,x85,x86,x87,x88,x89,x90,x91,x92,x93,x94,x95,x96,x97,x98,x99,x100,x101,x102,x103,x104,x105,x106,x107,x108,x109,x110,x111] l D tb B n0 g0 p1 p2 hs vs k W) (hlen:n0+k<=100000) :
  YieldAt Fence.wide mm Tryz.prog l #[.int .i64 (vs k)] W fun e W'=>e=.returned (.bool true)/\CpAt W0 fn #[x0,x1,x2,.pointer (some ⟨Bs,0,none⟩),x4,x5,x6,x7,x8,x9,x10,x11,x12,x13,x14,x15,x16,x17,x18,x19,x20,x21,x22,x23,x24,x25,x26,x27,x28,x29,x30,x31,x32,x33,x34,x35,x36,x37,x38,x39,x40,x41,x42,x43,x44,x45,x46,x47,x48,x49,x50,x51,x52,x53,x54,x55,x56,x57,x58,x59,x60,x61,x62,x63,x64,x65,x66,x67,x68,x69,x70,x71,x72,x73,x74,x75,x76,x77,x78,x79,x80,x81,x82,x83,x84,x85,x86,x87,x88,x89,x90,x91,x92,x93,x94,x95,x96,x97,x98,x99,x100,x101,x102,x103,x104,x105,x106,x107,x108,x109,x110,x111] l D tb B n0 g0 p1 p2 hs vs (k+1) W'/\dt_ (mb_ tb l) W W':=by
 obtain⟨i0,hi0,hq0,hq1,hq2⟩:=info_parts c8_;obtain⟨g,cap,hv,hrow,hgg⟩:=h.hv;refine⟨fn,#[x0,x1,x2,.pointer (some ⟨Bs,0,none⟩),x4,x5,x6,x7,x8,x9,x10,x11,x12,x13,x14,x15,x16,x17,x18,x19,x20,x21,x22,x23,x24,x25,x26,x27,x28,x29,x30,x31,x32,x33,x34,x35,x36,x37,x38,x39,x40,x41,x42,x43,x44,x45,x46,x47,x48,x49,x50,x51,x52,x53,x54,x55,x56,x57,x58,x59,x60,x61,x62,x63,x64,x65,x66,x67,x68,x69,x70,x71,x72,x73,x74,x75,.int .i64 (vs k),x77,x78,x79,x80,x81,x82,x83,x84,x85,x86,x87,x88,x89,x90,x91,x92,x93,x94,x95,x96,x97,x98,x99,x100,x101,x102,x103,x104,x105,x106,x107,x108,x109,x110,x111],fu_,jH_,by simpa[h8_]using run_yield (P:=Tryz.prog) (args:=#[.int .i64 (vs k)]) h.L rfl,roundIn_of_wpIn trivial ?_⟩;have hl:l<W.heap.size:=lt_of_block h.L
 have hbr:=run_beginRound (P:=Tryz.prog) h.L rfl;obtain⟨W2,hW2⟩:∃W2,W.putObj l (.loop { h8_ fn #[x0,x1,x2,.pointer (some ⟨Bs,0,none⟩),x4,x5,x6,x7,x8,x9,x10,x11,x12,x13,x14,x15,x16,x17,x18,x19,x20,x21,x22,x23,x24,x25,x26,x27,x28,x29,x30,x31,x32,x33,x34,x35,x36,x37,x38,x39,x40,x41,x42,x43,x44,x45,x46,x47,x48,x49,x50,x51,x52,x53,x54,x55,x56,x57,x58,x59,x60,x61,x62,x63,x64,x65,x66,x67,x68,x69,x70,x71,x72,x73,x74,x75,x76,x77,x78,x79,x80,x81,x82,x83,x84,x85,x86,x87,x88,x89,x90,x91,x92,x93,x94,x95,x96,x97,x98,x99,x100,x101,x102,x103,x104,x105,x106,x107,x108,x109,x110,x111] D .ready none with state:=.busy })=W2:=⟨_,rfl⟩;rw[hW2]at hbr;have hg2:W.grownBy W2 (some l):=by rw[<-hW2];exact grownBy_putObj_a _ _ _
 have hL2:W2.heap[l]?=some (.loop { h8_ fn #[x0,x1,x2,.pointer (some ⟨Bs,0,none⟩),x4,x5,x6,x7,x8,x9,x10,x11,x12,x13,x14,x15,x16,x17,x18,x19,x20,x21,x22,x23,x24,x25,x26,x27,x28,x29,x30,x31,x32,x33,x34,x35,x36,x37,x38,x39,x40,x41,x42,x43,x44,x45,x46,x47,x48,x49,x50,x51,x52,x53,x54,x55,x56,x57,x58,x59,x60,x61,x62,x63,x64,x65,x66,x67,x68,x69,x70,x71,x72,x73,x74,x75,x76,x77,x78,x79,x80,x81,x82,x83,x84,x85,x86,x87,x88,x89,x90,x91,x92,x93,x94,x95,x96,x97,x98,x99,x100,x101,x102,x103,x104,x105,x106,x107,x108,x109,x110,x111] D .ready none with state:=.busy }):=by rw[<-hW2];exact World.putObj_heap_same hl
 have hF2:H.Frame (fun k=>k=l) W W2:=H.Frame.grown (S:=fun k=>k=l) (H.Frame.refl _ W) hg2 (fun k e=>by cases e;exact Or.inl rfl);have htl:tb≠l:=fun e=>by
  have h1:W.heap[tb]?=_:=hv;rw[e,h.L]at h1
  cases h1
 have hgl:g≠l:=fun e=>by
  obtain⟨cur,hc⟩:=aV_ hrow (g:=g) rfl;have h1:W.heap[g]?=_:=hc;rw[e,h.L]at h1
  cases h1
 have hv2:=hv.frame hF2 htl;have hrow2:W2.ownsRow B 3 1 (.slice (some ⟨g,0,none⟩) (n0+k) cap) (n0+k) (bw_ hs++(List.range k).map (fun i=>Value.int .i64 (vs i))):=ah_ hrow hF2 (fun g' hg' e=>hgl (by rw[e]at hg';simpa[Value.ownBlock]using hg'));have hK2:W2.heap[D]?=some (.deferred (some [])):=(hF2.block D (lt_of_block h.K) hDl).trans h.K;have hBW:=hBx.frame h.frame (fun e=>e.elim hBg.1 hBg.2);have hBs2:=hBW.frame hF2 (fun e=>by have:=hBx.lt;omega);have HFa:=hi_ (h.frame.trans hF2 (fun b e=>Or.inr (by rw[e];exact h0l)));have HFb:Hid (H.Frame (mb_ tb l W) W W2):=hi_ (hF2.wide (fun k e=>Or.inr (Or.inl e)));have HV2:=hi_ hv2;have HR2:=hi_ hrow2;have HBs2:=hi_ hBs2;have HL2:=hi_ hL2;have HK2:=hi_ hK2;have HV:=hi_ hv;have hB2:B<=W2.heap.size:=Nat.le_trans hB (Nat.le_trans h.frame.size hF2.size)
 have hs2:=hF2.size;have hsW:=h.frame.size;clear hW2 hg2 hF2 hv hrow hv2 hrow2 hBW hBs2 hL2 hK2 h;unfold fu_
 gi_wp2_with gi_round_op_a
 unfold jH_
 gi_wp2_with fail
 have hgD:g≠D:=fun e=>by
  obtain⟨cur,hc⟩:=aV_ HR2.out (g:=g) rfl;have h1:W2.heap[g]?=_:=hc;rw[e,HK2.out]at h1
  cases h1
 have htD:tb≠D:=fun e=>by
  have h1:W2.heap[tb]?=_:=HV2.out;rw[e,HK2.out]at h1
  cases h1
 have htg:tb≠g:=fun e=>ak_ HR2.out HV2.out (by decide) (by rw[e];rfl);have hBgg:Bs≠g:=fun e=>hgg.elim (fun e2=>hBg.1 (e.trans e2)) (fun e2=>by have:=hBx.lt;omega);have HBd:=hi_ (Below.refl W2.heap.size W2).drew;have hl2:l<W2.heap.size:=by omega
 have hD2:D<W2.heap.size:=lt_of_block HK2.out;refine ff_ (CpS Bs tb g (n0+k) cap) 10 [(0,false),(1,false),(2,false),(3,false),(4,false),(5,false),(6,true),(7,true),(8,false),(9,false)] (by kernel_rfl) (by kernel_rfl) (by kernel_rfl) (fun⟨_,_,hx⟩=>hx) ⟨(ad_ (HBs2.out.below HBd.out)).1 0,(ad_ (HV2.out.below HBd.out)).1 2⟩ ?_;change cc_ _ _ _ _ _ _ _ (World.drew W2);have hSd:W2.heap.size=W2.drew.heap.size:=rfl;generalize World.drew W2=wd at *;iterate 6 (
  refine c1_ _ ?_ rfl (fun _ _ _ h=>h) (by rfl) ?_ ?_
  rotate_left
  focus (
   intro W' hS';obtain⟨s0,s1⟩:=hS';go_simp
   first|done|with_reducible rfl)
  simp only[Act.put,List.setIfInBounds_toArray,List.set_cons_zero,List.set_cons_succ])
 have HRd:Hid (wd.ownsRow B 3 1 (.slice (some ⟨g,0,none⟩) (n0+k) cap) (n0+k) (bw_ hs++(List.range k).map (fun i=>Value.int .i64 (vs i)))):=hi_ (own_below HR2.out HBd.out);have HVd:=hi_ (HV2.out.below HBd.out);have HBsd:=hi_ (HBs2.out.below HBd.out);have HLd:=hi_ ((HBd.out.block l hl2).trans HL2.out);have HKd:=hi_ ((HBd.out.block D hD2).trans HK2.out);have HFc:=hi_ (HFa.out.below_ HBd.out);have HFd:=hi_ (HFb.out.below_ HBd.out);have HD0:=hi_ ((Below.refl wd.heap.size wd).alloc (nl_) (.cells #[.int .i64 (vs k)] 3));clear HR2 HV2 HBs2 HL2 HK2 HFa HFb;refine cA_ _ rfl (fun K hK=>?_);go_simp
 refine hK _ _ ⟨(ad_ (HBsd.out.below HD0.out)).1 0,(ad_ (HVd.out.below HD0.out)).1 2⟩ ?_;clear hK K;try simp only[Act.put,List.setIfInBounds_toArray,List.set_cons_zero,List.set_cons_succ]
 refine cA_ _ rfl (fun K hK=>?_);refine step_append_lies _ (by rfl) _ _ 39 (by rfl) B 3 i0 _ 1 8 Tryz.underlying39 hi0 hq0 hq1 hq2 rfl (by decide) (.slice (some ⟨g,0,none⟩) (n0+k) cap) (n0+k) (bw_ hs++(List.range k).map (fun i=>Value.int .i64 (vs i))) (by rfl) (World.ownsRow.alloc HRd.out _) ⟨wd.heap.size,0,none⟩ 1 1 [.int .i64 (vs k)] (by rfl) (by rfl) (World.news_of_block (cs:=#[.int .i64 (vs k)]) (t:=3) (fr:=(0,0)) (heap_alloc_new wd _)) (by simp[Value.oneCell']) (by omega) (by unfold maxLen;omega) (by omega) (by simp;omega) (wd.heap.size+1) (by simp) ?_;intro gg cap2 w7 hown7 hgrow7 hat7 hlt7;have hF7:H.Frame (fun k=>k=g) wd w7:=H.Frame.grown (S:=fun k=>k=g) (Frame.alloc (H.Frame.refl _ wd) _) hgrow7 (fun k hk=>Or.inl (by have hk:some g=some k:=hk;injection hk with hk;exact hk.symm))
 have hb7:=HVd.out.frame hF7 htg;have hB7:=HBsd.out.frame hF7 hBgg;have hL7:=(hF7.block l (lt_of_block HLd.out) (fun e=>hgl e.symm)).trans HLd.out;have hK7:=(hF7.block D (lt_of_block HKd.out) (fun e=>hgD e.symm)).trans HKd.out;refine hK _ _ ⟨(ad_ hB7).1 0,(ad_ hb7).1 2⟩ ?_;clear hK K;iterate 2 (
  try simp only[Act.put,List.setIfInBounds_toArray,List.set_cons_zero,List.set_cons_succ]
  refine c1_ _ ?_ rfl (fun _ _ _ h=>h) (by rfl) ?_ ?_
  rotate_left
  focus (
   intro W' hS';obtain⟨s0,s1⟩:=hS';go_simp
   first|done|with_reducible rfl))
 try simp only[Act.put,List.setIfInBounds_toArray,List.set_cons_zero,List.set_cons_succ]
 show wpList _ _ _ _ _ _;simp only[List.drop_succ_cons,List.drop_zero];have d2:=(ad_ hb7).1 2;have d3:=(ad_ hb7).2 2 (by simp);have d4:=hb7.lt;have hset:=hb7.set 2 (.slice (some ⟨gg,0,none⟩) (n0+k+1) cap2);simp only[List.setIfInBounds_toArray,List.set_cons_zero,List.set_cons_succ]at hset;have hrow9:=bi_ hown7 hb7 (by decide) 2 (.slice (some ⟨gg,0,none⟩) (n0+k+1) cap2);have HGs:Hid (gg=g\/wd.heap.size<=gg):=hi_ (hat7.imp (fun e=>by have e:some g=some gg:=e;injection e with e;exact e.symm) (fun e=>by omega));have HSet:=hi_ hset;have HRow9:=hi_ hrow9;have HL9:=hi_ ((Below.heap_setCell w7 ⟨tb,2,none⟩ (.slice (some ⟨gg,0,none⟩) (n0+k+1) cap2) l (fun e=>htl e.symm)).trans hL7)
 have HK9:=hi_ ((Below.heap_setCell w7 ⟨tb,2,none⟩ (.slice (some ⟨gg,0,none⟩) (n0+k+1) cap2) D (fun e=>htD e.symm)).trans hK7);have HF9:=hi_ ((HFc.out.trans hF7 (fun b e=>hgg.elim (fun e2=>Or.inl (Or.inl (e.trans e2))) (fun e2=>Or.inr (by rw[e];exact e2)))).set (g:=tb) (Or.inl (Or.inr rfl)) 2 (.slice (some ⟨gg,0,none⟩) (n0+k+1) cap2));have HG9:=hi_ ((HFd.out.trans hF7 (fun b e=>Or.inl ((bE_ HV.out b).2 (Or.inr (Or.inr e))))).set (g:=tb) (Or.inl ((bE_ (l:=l) HV.out tb).2 (Or.inl rfl))) 2 (.slice (some ⟨gg,0,none⟩) (n0+k+1) cap2));have hWd:W.heap.size<=wd.heap.size:=HFd.out.size;clear hown7 hgrow7 hat7 hF7 hb7 hB7 hL7 hK7 hset hrow9 HRd HVd HBsd HLd HKd HFc HFd HD0 hi0 hq0 hq1 hq2;go_wp2_with fail
 clear d2 d3 d4;generalize World.setCell w7 ⟨tb,2,none⟩ (.slice (some ⟨gg,0,none⟩) (n0+k+1) cap2)=w9 at *;have hl9:=lt_of_block HL9.out;have hend:=run_endRound (P:=Tryz.prog) none HL9.out;have hne:39≠3:=by decide
 have hFe:∀x,H.Frame (fun k=>k=l) w9 (w9.putObj l x):=fun x=>H.Frame.grown (S:=fun k=>k=l) (H.Frame.refl _ w9) (grownBy_putObj_a _ _ _) (fun k e=>by cases e;exact Or.inl rfl);have hggl:gg≠l:=fun e=>by
  obtain⟨cur,hc⟩:=aV_ HRow9.out (g:=gg) rfl;have h1:w9.heap[gg]?=_:=hc;rw[e,HL9.out]at h1
  cases h1
 refine⟨_,_,hend,rfl,⟨⟨gg,cap2,HSet.out.frame (hFe _) htl,?_,?_⟩,World.putObj_heap_same hl9,((hFe _).block D (lt_of_block HK9.out) hDl).trans HK9.out,HF9.out.trans (hFe _) (fun b e=>Or.inr (by rw[e];exact h0l))⟩,HG9.out.trans (hFe _) (fun b e=>Or.inl ((bE_ HV.out b).2 (Or.inr (Or.inl e)))),fun b hb=>?_⟩
 ·rw[List.range_succ,List.map_append,<-List.append_assoc]
  exact ah_ HRow9.out (hFe _) (fun g' hg' e=>hggl (by rw[e]at hg';simpa[Value.ownBlock]using hg'))
 ·exact HGs.out.elim (fun e=>hgg.imp (fun e2=>e.trans e2) (fun e2=>by omega)) (fun e=>Or.inr (by omega))
 ·rcases(bE_ (HSet.out.frame (hFe _) htl) b).1 hb with e|e|e
  ·exact Or.inl ((bE_ HV.out b).2 (Or.inl e))
  ·exact Or.inl ((bE_ HV.out b).2 (Or.inr (Or.inl e)))
  ·exact HGs.out.elim (fun e2=>Or.inl ((bE_ HV.out b).2 (Or.inr (Or.inr (e.trans e2))))) (fun e2=>Or.inr (by omega))
end A
end
end Go.Proofs.YtinphfpdfodkkaaGreatDoor
