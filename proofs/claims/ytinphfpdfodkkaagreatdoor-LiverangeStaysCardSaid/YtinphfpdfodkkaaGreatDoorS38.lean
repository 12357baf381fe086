/- Texts. -/
import Derived.Test.YtinphfpdfodkkaaGreatDoorS34
set_option linter.unusedVariables false
set_option linter.unusedSimpArgs false
set_option maxHeartbeats 8000000
set_option maxRecDepth 100000
namespace Go.Proofs.YtinphfpdfodkkaaGreatDoor
section
open Go.RowKit Go.Shelf Go.Maps
attribute [local go_sem] Oper.semAt_some
namespace A
open H G R
def fM_ : Code := (Code.region 9 #[{ dst := some 11, op := Op.assign (Operand.tmp 76), type := 3, pos := "law.go:174", after := #[], guard := none }] false)
def kg_ : Code := (Code.block 1 (Code.region 10 #[{ dst := some 77, op := Op.load 27 (Operand.tmp 3), type := 27, pos := "law.go:175", after := #[], guard := none }, { dst := some 78, op := Op.load 27 (Operand.tmp 3), type := 27, pos := "law.go:175", after := #[], guard := none }, { dst := some 79, op := Op.nilCheck (Operand.tmp 78), type := 0, pos := "law.go:175", after := #[{ on := 1, ground := Ground.data }], guard := none }, { dst := some 80, op := Op.fieldAddr 41 (Operand.tmp 79) 2, type := 0, pos := "law.go:175", after := #[{ on := 2, ground := Ground.data }], guard := none }, { dst := some 81, op := Op.load 39 (Operand.tmp 80), type := 39, pos := "law.go:175", after := #[{ on := 3, ground := Ground.data }], guard := none }, { dst := some 82, op := Op.move (Operand.tmp 11), type := 3, pos := "law.go:175", after := #[], guard := none }, { dst := some 83, op := Op.buildSlice 39 1 #[(0, Operand.tmp 82)], type := 39, pos := "law.go:175", after := #[{ on := 5, ground := Ground.data }], guard := none }, { dst := some 84, op := Op.call { callee := Callee.builtin Builtin.append, args := #[Operand.tmp 81, Operand.tmp 83], argTypes := #[39, 39] }, type := 39, pos := "law.go:175", after := #[{ on := 4, ground := Ground.data }, { on := 6, ground := Ground.data }], guard := none }, { dst := some 85, op := Op.nilCheck (Operand.tmp 77), type := 0, pos := "law.go:175", after := #[{ on := 0, ground := Ground.data }, { on := 0, ground := Ground.phase }, { on := 1, ground := Ground.phase }, { on := 2, ground := Ground.phase }, { on := 3, ground := Ground.phase }, { on := 4, ground := Ground.phase }, { on := 5, ground := Ground.phase }, { on := 6, ground := Ground.phase }, { on := 7, ground := Ground.phase }], guard := none }, { dst := some 86, op := Op.fieldAddr 41 (Operand.tmp 85) 2, type := 0, pos := "law.go:175", after := #[{ on := 8, ground := Ground.data }, { on := 0, ground := Ground.phase }, { on := 1, ground := Ground.phase }, { on := 2, ground := Ground.phase }, { on := 3, ground := Ground.phase }, { on := 4, ground := Ground.phase }, { on := 5, ground := Ground.phase }, { on := 6, ground := Ground.phase }, { on := 7, ground := Ground.phase }], guard := none }, { dst := none, op := Op.store 39 (Operand.tmp 86) (Operand.tmp 84), type := 0, pos := "law.go:175", after := #[{ on := 9, ground := Ground.data }, { on := 7, ground := Ground.data }, { on := 7, ground := Ground.chain }, { on := 0, ground := Ground.phase }, { on := 1, ground := Ground.phase }, { on := 2, ground := Ground.phase }, { on := 3, ground := Ground.phase }, { on := 4, ground := Ground.phase }, { on := 5, ground := Ground.phase }, { on := 6, ground := Ground.phase }, { on := 7, ground := Ground.phase }], guard := none }] true))
def iA_(fn:FuncId)(ts:Array Value)(D:Nat)(st:LoopState)(pend:Option Code):Loop:=
 { state:=st,pending:=pend,fn,tmps:=ts,params:=#[76],assign:=fM_,body:=kg_,defers:=D }
structure CpAt(W0:World)(fn:FuncId)(ts:Array Value)(l D tb B n0 g0:Nat)(p1 p2:Value)(hs:List Int)(vs:Nat->Int)(k:Nat)(W:World):Prop where
 hv:∃g cap,Blk tb #[p1,p2,.slice (some ⟨g,0,none⟩) (n0+k) cap] 41 W/\W.ownsRow B 3 1 (.slice (some ⟨g,0,none⟩) (n0+k) cap) (n0+k) (bB_ hs++(List.range k).map (fun i=>Value.int .i64 (vs i)))/\(g=g0\/W0.heap.size<=g)
 L:W.heap[l]?=some (.loop (iA_ fn ts D .ready none))
 K:W.heap[D]?=some (.deferred (some []))
 frame:H.Frame (fun k=>k=g0\/k=tb) W0 W
def m9_(tb l:Nat)(W:World)(b:Nat):Prop:=b=tb\/b=l\/∃c0 c1 v,Blk tb #[c0,c1,v] 41 W/\v.ownBlock=some b
theorem blk_inj{g:Nat}{cs ds:Array Value}{t u:TypeId}{w:World}(h:Blk g cs t w)(k:Blk g ds u w):cs=ds:=by
 have h1:w.heap[g]?=some (.cells cs t (0,0)):=h;have h2:w.heap[g]?=some (.cells ds u (0,0)):=k;rw[h1]at h2;injection h2 with h2
 injection h2
theorem cp_tree{W0 W:World}{T:am_}{m:aa_}{pos:Nat->Nat}{tb B g0 n:Nat}{cs:Array Value}{v:Value}{xs:List Value}(hT:ag_ W0 T m pos)(hb:Blk tb cs 41 W0)(hr:W0.ownsRow B 3 1 v n xs)(hg:v.ownBlock=some g0)(hn:¬T.foot g0/\¬T.foot tb)(f:H.Frame (fun k=>k=g0\/k=tb) W0 W):ag_ W T m pos:=
 ⟨al_.frame hT.mem f (fun k hk hS=>hS.elim (fun e=>hn.1 (by rw[<-e];exact hk)) (fun e=>hn.2 (by rw[<-e];exact hk))) (fun r hr' g hg' hS=>hS.elim (fun e=>cI_ hT.mem hr (by decide) hg r hr' (by rw[<-e];exact hg')) (fun e=>hH_ hT.mem hb (by decide) r hr' (by rw[<-e];exact hg'))),hT.fits⟩
section
variable {W0:World} {fn:FuncId} {ts:Array Value} {l D tb B n0 g0:Nat} {p1 p2:Value} {hs:List Int} {vs:Nat->Int} {T:am_} {m:aa_} {pos:Nat->Nat}
theorem bK_{W:World}{g n cap:Nat}(hb:Blk tb #[p1,p2,.slice (some ⟨g,0,none⟩) n cap] 41 W)(b:Nat):m9_ tb l W b↔b=tb\/b=l\/b=g:=by
 constructor
 ·rintro(e|e|⟨c0,c1,v,h1,h2⟩)
  ·exact Or.inl e
  ·exact Or.inr (Or.inl e)
  have h3:=blk_inj hb h1;have h4:v=.slice (some ⟨g,0,none⟩) n cap:=by
   have h5:=congrArg Array.toList h3;simp only[List.cons.injEq]at h5;exact h5.2.2.1.symm
  rw[h4]at h2
  right;right
  have:g=b:=by simpa[Value.ownBlock]using h2
  exact this.symm
 rintro(e|e|e)
 ·exact Or.inl e
 ·exact Or.inr (Or.inl e)
 exact Or.inr (Or.inr ⟨_,_,_,hb,by rw[e];rfl⟩)
theorem CpAt.go{k:Nat}{W W':World}(h:CpAt W0 fn ts l D tb B n0 g0 p1 p2 hs vs k W)(b:Below W.heap.size W W'):CpAt W0 fn ts l D tb B n0 g0 p1 p2 hs vs k W':=by
 obtain⟨g,cap,h1,h2,h3⟩:=h.hv;exact⟨⟨g,cap,h1.below b,own_below h2 b,h3⟩,(b.block _ (lt_of_block h.L)).trans h.L,(b.block _ (lt_of_block h.K)).trans h.K,h.frame.below_ b⟩
theorem os_{v0:Value}{nn:Nat}{xs:List Value}{cs:Array Value}(hT:ag_ W0 T m pos)(hb:Blk tb cs 41 W0)(hr:W0.ownsRow B 3 1 v0 nn xs)(hg:v0.ownBlock=some g0)(hn:¬T.foot g0/\¬T.foot tb) :
  kp_ (m9_ tb l) (CpAt W0 fn ts l D tb B n0 g0 p1 p2 hs vs) T m pos:=by
 refine⟨fun k W W' h b=>h.go b,fun k W h=>cp_tree hT hb hr hg hn h.frame,fun k W b h ho=>?_,fun k W W' b h hb' ho=>?_⟩
 ·obtain⟨g,cap,h1,h2,h3⟩:=h.hv
  rcases(bK_ h1 b).1 ho with e|e|e
  ·rw[e];exact h1.lt
  ·rw[e];exact lt_of_block h.L
  rw[e];exact(ad_ h2).1
 obtain⟨g,cap,h1,h2,h3⟩:=h.hv;exact Or.inl ((bK_ h1 b).2 ((bK_ (h1.below hb') b).1 ho))
end
def CpS(Bs tb g n cap:Nat)(w':World):Prop:=w'.cell? ⟨Bs,0,none⟩=some (.pointer (some ⟨tb,0,none⟩))/\w'.cell? ⟨tb,2,none⟩=some (.slice (some ⟨g,0,none⟩) n cap)
theorem cpYield(mm:Nat)(W0:World)(fn:FuncId)(Bs l D tb B n0 g0:Nat)(p1 p2:Value)(hs:List Int)(vs:Nat->Int)(x0 x1 x2 x4 x5 x6 x7 x8 x9 x10 x11 x12 x13 x14 x15 x16 x17 x18 x19 x20 x21 x22 x23 x24 x25 x26 x27 x28 x29 x30 x31 x32 x33 x34 x35 x36 x37 x38 x39 x40 x41 x42 x43 x44 x45 x46 x47 x48 x49 x50 x51 x52 x53 x54 x55 x56 x57 x58 x59 x60 x61 x62 x63 x64 x65 x66 x67 x68 x69 x70 x71 x72 x73 x74 x75 x76 x77 x78 x79 x80 x81 x82 x83 x84 x85 x86 x87 x88 x89 x90 x91 x92 x93 x94 x95 x96 x97 x98 x99 x100 x101 x102 x103 x104 x105 x106 x107 x108 x109 x110 x111:Value)(hBx:Blk Bs #[.pointer (some ⟨tb,0,none⟩)] 27 W0)(hBg:Bs≠g0/\Bs≠tb)(h0l:W0.heap.size<=l)(h0D:W0.heap.size<=D)(hB:B<=W0.heap.size)(hDl:D≠l)
  (k:Nat) (W:World) (h:CpAt W0 fn #[x0,x1,x2,.pointer (some ⟨Bs,0,none⟩),x4,x5,x6,x7,x8,x9,x10,x11,x12,x13,x14,x15,x16,x17,x18,x19,x20,x21,x22,x23,x24,x25,x26,x27,x28,x29,x30,x31,x32,x33,x34,x35,x36,x37,x38,x39,x40,x41,x42,x43,x44,x45,x46,x47,x48,x49,x50,x51,x52,x53,x54,x55,x56,x57,x58,x59,x60,x61,x62,x63,x64,x65,x66,x67,x68,x69,x70,x71,x72,x73,x74,x75,x76,x77,x78,x79,x80,x81,x82,x83,x84,x85,x86,x87,x88,x89,x90,x91,x92,x93,x94,x95,x96,x97,x98,x99,x100,x101,x102,x103,x104,x105,x106,x107,x108,x109,x110,x111] l D tb B n0 g0 p1 p2 hs vs k W) (hlen:n0+k<=100000) :
  YieldAt Fence.wide mm Tryz.prog l #[.int .i64 (vs k)] W fun e W'=>e=.returned (.bool true)/\CpAt W0 fn #[x0,x1,x2,.pointer (some ⟨Bs,0,none⟩),x4,x5,x6,x7,x8,x9,x10,x11,x12,x13,x14,x15,x16,x17,x18,x19,x20,x21,x22,x23,x24,x25,x26,x27,x28,x29,x30,x31,x32,x33,x34,x35,x36,x37,x38,x39,x40,x41,x42,x43,x44,x45,x46,x47,x48,x49,x50,x51,x52,x53,x54,x55,x56,x57,x58,x59,x60,x61,x62,x63,x64,x65,x66,x67,x68,x69,x70,x71,x72,x73,x74,x75,x76,x77,x78,x79,x80,x81,x82,x83,x84,x85,x86,x87,x88,x89,x90,x91,x92,x93,x94,x95,x96,x97,x98,x99,x100,x101,x102,x103,x104,x105,x106,x107,x108,x109,x110,x111] l D tb B n0 g0 p1 p2 hs vs (k+1) W'/\c6_ (m9_ tb l) W W':=by
 obtain⟨i0,hi0,hq0,hq1,hq2⟩:=info_parts dh_;obtain⟨g,cap,hv,hrow,hgg⟩:=h.hv;refine⟨fn,#[x0,x1,x2,.pointer (some ⟨Bs,0,none⟩),x4,x5,x6,x7,x8,x9,x10,x11,x12,x13,x14,x15,x16,x17,x18,x19,x20,x21,x22,x23,x24,x25,x26,x27,x28,x29,x30,x31,x32,x33,x34,x35,x36,x37,x38,x39,x40,x41,x42,x43,x44,x45,x46,x47,x48,x49,x50,x51,x52,x53,x54,x55,x56,x57,x58,x59,x60,x61,x62,x63,x64,x65,x66,x67,x68,x69,x70,x71,x72,x73,x74,x75,.int .i64 (vs k),x77,x78,x79,x80,x81,x82,x83,x84,x85,x86,x87,x88,x89,x90,x91,x92,x93,x94,x95,x96,x97,x98,x99,x100,x101,x102,x103,x104,x105,x106,x107,x108,x109,x110,x111],fM_,kg_,by simpa[iA_]using run_yield (P:=Tryz.prog) (args:=#[.int .i64 (vs k)]) h.L rfl,roundIn_of_wpIn trivial ?_⟩;have hl:l<W.heap.size:=lt_of_block h.L
 have hbr:=run_beginRound (P:=Tryz.prog) h.L rfl;obtain⟨W2,hW2⟩:∃W2,W.putObj l (.loop { iA_ fn #[x0,x1,x2,.pointer (some ⟨Bs,0,none⟩),x4,x5,x6,x7,x8,x9,x10,x11,x12,x13,x14,x15,x16,x17,x18,x19,x20,x21,x22,x23,x24,x25,x26,x27,x28,x29,x30,x31,x32,x33,x34,x35,x36,x37,x38,x39,x40,x41,x42,x43,x44,x45,x46,x47,x48,x49,x50,x51,x52,x53,x54,x55,x56,x57,x58,x59,x60,x61,x62,x63,x64,x65,x66,x67,x68,x69,x70,x71,x72,x73,x74,x75,x76,x77,x78,x79,x80,x81,x82,x83,x84,x85,x86,x87,x88,x89,x90,x91,x92,x93,x94,x95,x96,x97,x98,x99,x100,x101,x102,x103,x104,x105,x106,x107,x108,x109,x110,x111] D .ready none with state:=.busy })=W2:=⟨_,rfl⟩;rw[hW2]at hbr;have hg2:W.grownBy W2 (some l):=by rw[<-hW2];exact grownBy_putObj_a _ _ _
 have hL2:W2.heap[l]?=some (.loop { iA_ fn #[x0,x1,x2,.pointer (some ⟨Bs,0,none⟩),x4,x5,x6,x7,x8,x9,x10,x11,x12,x13,x14,x15,x16,x17,x18,x19,x20,x21,x22,x23,x24,x25,x26,x27,x28,x29,x30,x31,x32,x33,x34,x35,x36,x37,x38,x39,x40,x41,x42,x43,x44,x45,x46,x47,x48,x49,x50,x51,x52,x53,x54,x55,x56,x57,x58,x59,x60,x61,x62,x63,x64,x65,x66,x67,x68,x69,x70,x71,x72,x73,x74,x75,x76,x77,x78,x79,x80,x81,x82,x83,x84,x85,x86,x87,x88,x89,x90,x91,x92,x93,x94,x95,x96,x97,x98,x99,x100,x101,x102,x103,x104,x105,x106,x107,x108,x109,x110,x111] D .ready none with state:=.busy }):=by rw[<-hW2];exact World.putObj_heap_same hl
 have hF2:H.Frame (fun k=>k=l) W W2:=H.Frame.grown (S:=fun k=>k=l) (H.Frame.refl _ W) hg2 (fun k e=>by cases e;exact Or.inl rfl);have htl:tb≠l:=fun e=>by
  have h1:W.heap[tb]?=_:=hv;rw[e,h.L]at h1
  cases h1
 have hgl:g≠l:=fun e=>by
  obtain⟨cur,hc⟩:=a3_ hrow (g:=g) rfl;have h1:W.heap[g]?=_:=hc;rw[e,h.L]at h1
  cases h1
 have hv2:=hv.frame hF2 htl;have hrow2:W2.ownsRow B 3 1 (.slice (some ⟨g,0,none⟩) (n0+k) cap) (n0+k) (bB_ hs++(List.range k).map (fun i=>Value.int .i64 (vs i))):=ak_ hrow hF2 (fun g' hg' e=>hgl (by rw[e]at hg';simpa[Value.ownBlock]using hg'));have hK2:W2.heap[D]?=some (.deferred (some [])):=(hF2.block D (lt_of_block h.K) hDl).trans h.K;have hBW:=hBx.frame h.frame (fun e=>e.elim hBg.1 hBg.2);have hBs2:=hBW.frame hF2 (fun e=>by have:=hBx.lt;omega);have HFa:=hi_ (h.frame.trans hF2 (fun b e=>Or.inr (by rw[e];exact h0l)));have HFb:Hd (H.Frame (m9_ tb l W) W W2):=hi_ (hF2.wide (fun k e=>Or.inr (Or.inl e)));have HV2:=hi_ hv2;have HR2:=hi_ hrow2;have HBs2:=hi_ hBs2;have HL2:=hi_ hL2;have HK2:=hi_ hK2;have HV:=hi_ hv;have hB2:B<=W2.heap.size:=Nat.le_trans hB (Nat.le_trans h.frame.size hF2.size)
 have hs2:=hF2.size;have hsW:=h.frame.size;clear hW2 hg2 hF2 hv hrow hv2 hrow2 hBW hBs2 hL2 hK2 h;unfold fM_
 gi_wp2_with gi_round_op_a
 unfold kg_
 gi_wp2_with fail
 have hgD:g≠D:=fun e=>by
  obtain⟨cur,hc⟩:=a3_ HR2.o (g:=g) rfl;have h1:W2.heap[g]?=_:=hc;rw[e,HK2.o]at h1
  cases h1
 have htD:tb≠D:=fun e=>by
  have h1:W2.heap[tb]?=_:=HV2.o;rw[e,HK2.o]at h1
  cases h1
 have htg:tb≠g:=fun e=>ai_ HR2.o HV2.o (by decide) (by rw[e];rfl);have hBgg:Bs≠g:=fun e=>hgg.elim (fun e2=>hBg.1 (e.trans e2)) (fun e2=>by have:=hBx.lt;omega);have HBd:=hi_ (Below.refl W2.heap.size W2).drew;have hl2:l<W2.heap.size:=by omega
 have hD2:D<W2.heap.size:=lt_of_block HK2.o;refine fu_ (CpS Bs tb g (n0+k) cap) 10 [(0,false),(1,false),(2,false),(3,false),(4,false),(5,false),(6,true),(7,true),(8,false),(9,false)] (by kernel_rfl) (by kernel_rfl) (by kernel_rfl) (fun⟨_,_,hx⟩=>hx) ⟨(ae_ (HBs2.o.below HBd.o)).1 0,(ae_ (HV2.o.below HBd.o)).1 2⟩ ?_;change b4_ _ _ _ _ _ _ _ (World.drew W2);have hSd:W2.heap.size=W2.drew.heap.size:=rfl;generalize World.drew W2=wd at *;iterate 6 (
  refine cP_ _ ?_ rfl (fun _ _ _ h=>h) (by rfl) ?_ ?_
  rotate_left
  focus (
   intro W' hS';obtain⟨s0,s1⟩:=hS';go_simp
   first|done|with_reducible rfl)
  simp only[Act.put,List.setIfInBounds_toArray,List.set_cons_zero,List.set_cons_succ])
 have HRd:Hd (wd.ownsRow B 3 1 (.slice (some ⟨g,0,none⟩) (n0+k) cap) (n0+k) (bB_ hs++(List.range k).map (fun i=>Value.int .i64 (vs i)))):=hi_ (own_below HR2.o HBd.o);have HVd:=hi_ (HV2.o.below HBd.o);have HBsd:=hi_ (HBs2.o.below HBd.o);have HLd:=hi_ ((HBd.o.block l hl2).trans HL2.o);have HKd:=hi_ ((HBd.o.block D hD2).trans HK2.o);have HFc:=hi_ (HFa.o.below_ HBd.o);have HFd:=hi_ (HFb.o.below_ HBd.o);have HD0:=hi_ ((Below.refl wd.heap.size wd).alloc (nl_) (.cells #[.int .i64 (vs k)] 3));clear HR2 HV2 HBs2 HL2 HK2 HFa HFb;refine co_ _ rfl (fun K hK=>?_);go_simp
 refine hK _ _ ⟨(ae_ (HBsd.o.below HD0.o)).1 0,(ae_ (HVd.o.below HD0.o)).1 2⟩ ?_;clear hK K;try simp only[Act.put,List.setIfInBounds_toArray,List.set_cons_zero,List.set_cons_succ]
 refine co_ _ rfl (fun K hK=>?_);refine step_append_lies _ (by rfl) _ _ 39 (by rfl) B 3 i0 _ 1 8 Tryz.underlying39 hi0 hq0 hq1 hq2 rfl (by decide) (.slice (some ⟨g,0,none⟩) (n0+k) cap) (n0+k) (bB_ hs++(List.range k).map (fun i=>Value.int .i64 (vs i))) (by rfl) (World.ownsRow.alloc HRd.o _) ⟨wd.heap.size,0,none⟩ 1 1 [.int .i64 (vs k)] (by rfl) (by rfl) (World.news_of_block (cs:=#[.int .i64 (vs k)]) (t:=3) (fr:=(0,0)) (heap_alloc_new wd _)) (by simp[Value.oneCell']) (by omega) (by unfold maxLen;omega) (by omega) (by simp;omega) (wd.heap.size+1) (by simp) ?_;intro gg cap2 w7 hown7 hgrow7 hat7 hlt7;have hF7:H.Frame (fun k=>k=g) wd w7:=H.Frame.grown (S:=fun k=>k=g) (Frame.alloc (H.Frame.refl _ wd) _) hgrow7 (fun k hk=>Or.inl (by have hk:some g=some k:=hk;injection hk with hk;exact hk.symm))
 have hb7:=HVd.o.frame hF7 htg;have hB7:=HBsd.o.frame hF7 hBgg;have hL7:=(hF7.block l (lt_of_block HLd.o) (fun e=>hgl e.symm)).trans HLd.o;have hK7:=(hF7.block D (lt_of_block HKd.o) (fun e=>hgD e.symm)).trans HKd.o;refine hK _ _ ⟨(ae_ hB7).1 0,(ae_ hb7).1 2⟩ ?_;clear hK K;iterate 2 (
  try simp only[Act.put,List.setIfInBounds_toArray,List.set_cons_zero,List.set_cons_succ]
  refine cP_ _ ?_ rfl (fun _ _ _ h=>h) (by rfl) ?_ ?_
  rotate_left
  focus (
   intro W' hS';obtain⟨s0,s1⟩:=hS';go_simp
   first|done|with_reducible rfl))
 try simp only[Act.put,List.setIfInBounds_toArray,List.set_cons_zero,List.set_cons_succ]
 show wpList _ _ _ _ _ _;simp only[List.drop_succ_cons,List.drop_zero];have d2:=(ae_ hb7).1 2;have d3:=(ae_ hb7).2 2 (by simp);have d4:=hb7.lt;have hset:=hb7.set 2 (.slice (some ⟨gg,0,none⟩) (n0+k+1) cap2);simp only[List.setIfInBounds_toArray,List.set_cons_zero,List.set_cons_succ]at hset;have hrow9:=bk_ hown7 hb7 (by decide) 2 (.slice (some ⟨gg,0,none⟩) (n0+k+1) cap2);have HGs:Hd (gg=g\/wd.heap.size<=gg):=hi_ (hat7.imp (fun e=>by have e:some g=some gg:=e;injection e with e;exact e.symm) (fun e=>by omega));have HSet:=hi_ hset;have HRow9:=hi_ hrow9;have HL9:=hi_ ((Below.heap_setCell w7 ⟨tb,2,none⟩ (.slice (some ⟨gg,0,none⟩) (n0+k+1) cap2) l (fun e=>htl e.symm)).trans hL7)
 have HK9:=hi_ ((Below.heap_setCell w7 ⟨tb,2,none⟩ (.slice (some ⟨gg,0,none⟩) (n0+k+1) cap2) D (fun e=>htD e.symm)).trans hK7);have HF9:=hi_ ((HFc.o.trans hF7 (fun b e=>hgg.elim (fun e2=>Or.inl (Or.inl (e.trans e2))) (fun e2=>Or.inr (by rw[e];exact e2)))).set (g:=tb) (Or.inl (Or.inr rfl)) 2 (.slice (some ⟨gg,0,none⟩) (n0+k+1) cap2));have HG9:=hi_ ((HFd.o.trans hF7 (fun b e=>Or.inl ((bK_ HV.o b).2 (Or.inr (Or.inr e))))).set (g:=tb) (Or.inl ((bK_ (l:=l) HV.o tb).2 (Or.inl rfl))) 2 (.slice (some ⟨gg,0,none⟩) (n0+k+1) cap2));have hWd:W.heap.size<=wd.heap.size:=HFd.o.size;clear hown7 hgrow7 hat7 hF7 hb7 hB7 hL7 hK7 hset hrow9 HRd HVd HBsd HLd HKd HFc HFd HD0 hi0 hq0 hq1 hq2;go_wp2_with fail
 clear d2 d3 d4;generalize World.setCell w7 ⟨tb,2,none⟩ (.slice (some ⟨gg,0,none⟩) (n0+k+1) cap2)=w9 at *;have hl9:=lt_of_block HL9.o;have hend:=run_endRound (P:=Tryz.prog) none HL9.o;have hne:39≠3:=by decide
 have hFe:∀x,H.Frame (fun k=>k=l) w9 (w9.putObj l x):=fun x=>H.Frame.grown (S:=fun k=>k=l) (H.Frame.refl _ w9) (grownBy_putObj_a _ _ _) (fun k e=>by cases e;exact Or.inl rfl);have hggl:gg≠l:=fun e=>by
  obtain⟨cur,hc⟩:=a3_ HRow9.o (g:=gg) rfl;have h1:w9.heap[gg]?=_:=hc;rw[e,HL9.o]at h1
  cases h1
 refine⟨_,_,hend,rfl,⟨⟨gg,cap2,HSet.o.frame (hFe _) htl,?_,?_⟩,World.putObj_heap_same hl9,((hFe _).block D (lt_of_block HK9.o) hDl).trans HK9.o,HF9.o.trans (hFe _) (fun b e=>Or.inr (by rw[e];exact h0l))⟩,HG9.o.trans (hFe _) (fun b e=>Or.inl ((bK_ HV.o b).2 (Or.inr (Or.inl e)))),fun b hb=>?_⟩
 ·rw[List.range_succ,List.map_append,<-List.append_assoc]
  exact ak_ HRow9.o (hFe _) (fun g' hg' e=>hggl (by rw[e]at hg';simpa[Value.ownBlock]using hg'))
 ·exact HGs.o.elim (fun e=>hgg.imp (fun e2=>e.trans e2) (fun e2=>by omega)) (fun e=>Or.inr (by omega))
 rcases(bK_ (HSet.o.frame (hFe _) htl) b).1 hb with e|e|e
 ·exact Or.inl ((bK_ HV.o b).2 (Or.inl e))
 ·exact Or.inl ((bK_ HV.o b).2 (Or.inr (Or.inl e)))
 exact HGs.o.elim (fun e2=>Or.inl ((bK_ HV.o b).2 (Or.inr (Or.inr (e.trans e2))))) (fun e2=>Or.inr (by omega))
end A
end
section
open Go.RowKit Go.Shelf Go.Maps
attribute [local go_sem] Oper.semAt_some
namespace A
open H G R
theorem or_(n:Nat)(Q:Exit->Act->World->Prop)(w:World)(T:am_)(m:aa_)(pos:Nat->Nat)(c Bs tb B n0 g0 cap0 b1 b2:Nat)(p1 p2:Value)(hs:List Int)(x0 x1 x2 x4 x5 x6 x7 x8 x9 x10 x11 x12 x13 x14 x15 x16 x17 x18 x19 x20 x21 x22 x23 x24 x25 x26 x27 x28 x29 x30 x31 x32 x33 x34 x35 x36 x37 x38 x39 x40 x41 x42 x43 x44 x45 x46 x47 x48 x49 x50 x51 x52 x53 x54 x55 x56 x57 x58 x59 x60 x61 x62 x63 x64 x65 x66 x67 x68 x69 x70 x71 x72 x73 x74 x75 x76 x77 x78 x79 x80 x81 x82 x83 x84 x85 x86 x87 x88 x89 x90 x91 x92 x93 x94 x95 x96 x97 x98 x99 x100 x101 x102 x103 x104 x105 x106 x107 x108 x109 x110 x111:Value)
  (hx:x75=.func (.func 98) #[] #[.pointer (some ⟨b1,0,none⟩),.pointer (some ⟨b2,0,none⟩)])
  (hT:ag_ w T m pos) (hc:has m c=true) (hBx:Blk Bs #[.pointer (some ⟨tb,0,none⟩)] 27 w) (hb:Blk tb #[p1,p2,.slice (some ⟨g0,0,none⟩) n0 cap0] 41 w)
  (hr:w.ownsRow B 3 1 (.slice (some ⟨g0,0,none⟩) n0 cap0) n0 (bB_ hs)) (hn:¬T.foot g0/\¬T.foot tb) (hlen:n0+(walk m c).length<=100000) (hB:B<=w.heap.size)
  (hb1:b1<w.heap.size) (hb2:b2<w.heap.size) (c1:w.cell? ⟨b1,0,none⟩=some (.pointer (some ⟨T.tb,0,none⟩))) (c2:w.cell? ⟨b2,0,none⟩=some (.int .i64 (hd T pos c)))
  (hQ:∀W g cap,Blk tb #[p1,p2,.slice (some ⟨g,0,none⟩) (n0+(walk m c).length) cap] 41 W->W.ownsRow B 3 1 (.slice (some ⟨g,0,none⟩) (n0+(walk m c).length) cap) (n0+(walk m c).length) (bB_ hs++(List.range (walk m c).length).map (fun i=>Value.int .i64 (hd T pos ((walk m c).getD i 0))))->(g=g0\/w.heap.size<=g)->H.Frame (fun k=>k=g0\/k=tb) w W->W.heap[w.heap.size]?=some (.deferred (some [])) →
   Q .normal { tmps:=#[x0,x1,x2,.pointer (some ⟨Bs,0,none⟩),x4,x5,x6,x7,x8,x9,x10,x11,x12,x13,x14,x15,x16,x17,x18,x19,x20,x21,x22,x23,x24,x25,x26,x27,x28,x29,x30,x31,x32,x33,x34,x35,x36,x37,x38,x39,x40,x41,x42,x43,x44,x45,x46,x47,x48,x49,x50,x51,x52,x53,x54,x55,x56,x57,x58,x59,x60,x61,x62,x63,x64,x65,x66,x67,x68,x69,x70,x71,x72,x73,x74,x75,x76,x77,x78,x79,x80,x81,x82,x83,x84,x85,x86,x87,x88,x89,x90,x91,x92,x93,x94,x95,x96,x97,x98,x99,x100,x101,x102,x103,x104,x105,x106,x107,x108,x109,x110,x111],defers:=[{ target:=.collected w.heap.size,args:=#[] }] } W) :
  (Code.rangeFunc (Operand.tmp 75) #[76] fM_ kg_).wpIn Fence.wide n Tryz.prog Q { tmps:=#[x0,x1,x2,.pointer (some ⟨Bs,0,none⟩),x4,x5,x6,x7,x8,x9,x10,x11,x12,x13,x14,x15,x16,x17,x18,x19,x20,x21,x22,x23,x24,x25,x26,x27,x28,x29,x30,x31,x32,x33,x34,x35,x36,x37,x38,x39,x40,x41,x42,x43,x44,x45,x46,x47,x48,x49,x50,x51,x52,x53,x54,x55,x56,x57,x58,x59,x60,x61,x62,x63,x64,x65,x66,x67,x68,x69,x70,x71,x72,x73,x74,x75,x76,x77,x78,x79,x80,x81,x82,x83,x84,x85,x86,x87,x88,x89,x90,x91,x92,x93,x94,x95,x96,x97,x98,x99,x100,x101,x102,x103,x104,x105,x106,x107,x108,x109,x110,x111],defers:=[] } w:=by
 have hBg:Bs≠g0/\Bs≠tb:=⟨fun e=>ai_ hr hBx (by decide) (by rw[e];rfl),fun e=>by rw[e]at hBx;exact absurd (cD_ hBx hb) (by decide)⟩;refine wpIn_rangeFunc ?_;intro fn hfn
 obtain⟨W1,hW1⟩:∃W1,(w.alloc (.deferred (some []))).alloc (.loop (iA_ fn #[x0,x1,x2,.pointer (some ⟨Bs,0,none⟩),x4,x5,x6,x7,x8,x9,x10,x11,x12,x13,x14,x15,x16,x17,x18,x19,x20,x21,x22,x23,x24,x25,x26,x27,x28,x29,x30,x31,x32,x33,x34,x35,x36,x37,x38,x39,x40,x41,x42,x43,x44,x45,x46,x47,x48,x49,x50,x51,x52,x53,x54,x55,x56,x57,x58,x59,x60,x61,x62,x63,x64,x65,x66,x67,x68,x69,x70,x71,x72,x73,x74,x75,x76,x77,x78,x79,x80,x81,x82,x83,x84,x85,x86,x87,x88,x89,x90,x91,x92,x93,x94,x95,x96,x97,x98,x99,x100,x101,x102,x103,x104,x105,x106,x107,x108,x109,x110,x111] w.heap.size .ready none))=W1:=⟨_,rfl⟩;have hb1':Below w.heap.size w W1:=by rw[<-hW1];exact((Below.refl w.heap.size w).alloc (nl_) _).alloc (by simp) _
 have hs1:W1.heap.size=w.heap.size+2:=by rw[<-hW1];simp
 have hM:CpAt w fn #[x0,x1,x2,.pointer (some ⟨Bs,0,none⟩),x4,x5,x6,x7,x8,x9,x10,x11,x12,x13,x14,x15,x16,x17,x18,x19,x20,x21,x22,x23,x24,x25,x26,x27,x28,x29,x30,x31,x32,x33,x34,x35,x36,x37,x38,x39,x40,x41,x42,x43,x44,x45,x46,x47,x48,x49,x50,x51,x52,x53,x54,x55,x56,x57,x58,x59,x60,x61,x62,x63,x64,x65,x66,x67,x68,x69,x70,x71,x72,x73,x74,x75,x76,x77,x78,x79,x80,x81,x82,x83,x84,x85,x86,x87,x88,x89,x90,x91,x92,x93,x94,x95,x96,x97,x98,x99,x100,x101,x102,x103,x104,x105,x106,x107,x108,x109,x110,x111] (w.heap.size+1) w.heap.size tb B n0 g0 p1 p2 hs (fun i=>hd T pos ((walk m c).getD i 0)) 0 W1:=
  ⟨⟨g0,cap0,hb.below hb1',by simpa using own_below hr hb1',Or.inl rfl⟩,
   by rw[<-hW1];have:=World.alloc_heap_new (w.alloc (.deferred (some []))) (.loop (iA_ fn #[x0,x1,x2,.pointer (some ⟨Bs,0,none⟩),x4,x5,x6,x7,x8,x9,x10,x11,x12,x13,x14,x15,x16,x17,x18,x19,x20,x21,x22,x23,x24,x25,x26,x27,x28,x29,x30,x31,x32,x33,x34,x35,x36,x37,x38,x39,x40,x41,x42,x43,x44,x45,x46,x47,x48,x49,x50,x51,x52,x53,x54,x55,x56,x57,x58,x59,x60,x61,x62,x63,x64,x65,x66,x67,x68,x69,x70,x71,x72,x73,x74,x75,x76,x77,x78,x79,x80,x81,x82,x83,x84,x85,x86,x87,x88,x89,x90,x91,x92,x93,x94,x95,x96,x97,x98,x99,x100,x101,x102,x103,x104,x105,x106,x107,x108,x109,x110,x111] w.heap.size .ready none));rwa [World.size_alloc]at this,
   by rw[<-hW1];exact(Below.heap_alloc _ _ _ (by simp)).trans (World.alloc_heap_new w _),H.Frame.of hb1'⟩
 refine⟨w.heap.size+1,[{ target:=.collected w.heap.size,args:=#[] }],W1,{ target:=.fn (.func 98) #[.pointer (some ⟨b1,0,none⟩),.pointer (some ⟨b2,0,none⟩)],args:=#[.func (.yield (w.heap.size+1)) #[] #[]] },W1,98,
  #[.func (.yield (w.heap.size+1)) #[] #[]] ++ #[.pointer (some ⟨b1,0,none⟩),.pointer (some ⟨b2,0,none⟩)],W1,?_,?_,?_,?_,fun h=>(by cases h),?_⟩
 ·rw[<-hW1];exact run_enterLoop_outer _ _ _ _ _
 ·simp[resolve,go_sem,hx]
 ·intro f' hf';trivial
 ·simp[invoke,go_sem,enters_of Tryz.func98 (by kernel_rfl) rfl]
 have K:=os_ (W0:=w) (fn:=fn) (ts:=#[x0,x1,x2,.pointer (some ⟨Bs,0,none⟩),x4,x5,x6,x7,x8,x9,x10,x11,x12,x13,x14,x15,x16,x17,x18,x19,x20,x21,x22,x23,x24,x25,x26,x27,x28,x29,x30,x31,x32,x33,x34,x35,x36,x37,x38,x39,x40,x41,x42,x43,x44,x45,x46,x47,x48,x49,x50,x51,x52,x53,x54,x55,x56,x57,x58,x59,x60,x61,x62,x63,x64,x65,x66,x67,x68,x69,x70,x71,x72,x73,x74,x75,x76,x77,x78,x79,x80,x81,x82,x83,x84,x85,x86,x87,x88,x89,x90,x91,x92,x93,x94,x95,x96,x97,x98,x99,x100,x101,x102,x103,x104,x105,x106,x107,x108,x109,x110,x111]) (l:=w.heap.size+1) (D:=w.heap.size) (tb:=tb) (B:=B) (n0:=n0) (g0:=g0) (p1:=p1) (p2:=p2) (hs:=hs) (vs:=fun i=>hd T pos ((walk m c).getD i 0)) hT hb hr rfl hn
 refine(hO_ T m pos w hT c hc (w.heap.size+1) (m9_ tb (w.heap.size+1)) _ K
  (fun n' k W hJ hk=>cpYield n' w fn Bs (w.heap.size+1) w.heap.size tb B n0 g0 p1 p2 hs (fun i=>hd T pos ((walk m c).getD i 0)) x0 x1 x2 x4 x5 x6 x7 x8 x9 x10 x11 x12 x13 x14 x15 x16 x17 x18 x19 x20 x21 x22 x23 x24 x25 x26 x27 x28 x29 x30 x31 x32 x33 x34 x35 x36 x37 x38 x39 x40 x41 x42 x43 x44 x45 x46 x47 x48 x49 x50 x51 x52 x53 x54 x55 x56 x57 x58 x59 x60 x61 x62 x63 x64 x65 x66 x67 x68 x69 x70 x71 x72 x73 x74 x75 x76 x77 x78 x79 x80 x81 x82 x83 x84 x85 x86 x87 x88 x89 x90 x91 x92 x93 x94 x95 x96 x97 x98 x99 x100 x101 x102 x103 x104 x105 x106 x107 x108 x109 x110 x111 hBx hBg (by omega) (nl_) hB (by omega) k W hJ (by omega)) _ b1 b2 W1 hM (by omega) (by omega) ((hb1'.cell (p:=⟨b1,0,none⟩) hb1).trans c1) ((hb1'.cell (p:=⟨b2,0,none⟩) hb2).trans c2)).mono ?_
 rintro e W2 ⟨⟨v0,rfl⟩,h2⟩;obtain⟨g,cap,hv,hrow,hgg⟩:=h2.hv;have hend:=run_endLoop (P:=Tryz.prog) h2.L (by simp[iA_]);obtain⟨W3,hW3⟩:∃W3,W2.putObj (w.heap.size+1) (.loop { iA_ fn #[x0,x1,x2,.pointer (some ⟨Bs,0,none⟩),x4,x5,x6,x7,x8,x9,x10,x11,x12,x13,x14,x15,x16,x17,x18,x19,x20,x21,x22,x23,x24,x25,x26,x27,x28,x29,x30,x31,x32,x33,x34,x35,x36,x37,x38,x39,x40,x41,x42,x43,x44,x45,x46,x47,x48,x49,x50,x51,x52,x53,x54,x55,x56,x57,x58,x59,x60,x61,x62,x63,x64,x65,x66,x67,x68,x69,x70,x71,x72,x73,x74,x75,x76,x77,x78,x79,x80,x81,x82,x83,x84,x85,x86,x87,x88,x89,x90,x91,x92,x93,x94,x95,x96,x97,x98,x99,x100,x101,x102,x103,x104,x105,x106,x107,x108,x109,x110,x111] w.heap.size .ready none with state:=.exhausted })=W3:=⟨_,rfl⟩;rw[hW3]at hend
 have hg3:W2.grownBy W3 (some (w.heap.size+1)):=by rw[<-hW3];exact grownBy_putObj_a _ _ _
 have hF3:H.Frame (fun k=>k=w.heap.size+1) W2 W3:=H.Frame.grown (S:=fun k=>k=w.heap.size+1) (H.Frame.refl _ W2) hg3 (fun k e=>by cases e;exact Or.inl rfl);have htl:tb≠w.heap.size+1:=fun e=>by have:=hb.lt;omega
 have hgl:g≠w.heap.size+1:=fun e=>by
  obtain⟨cur,hcc⟩:=a3_ hrow (g:=g) rfl;have h1:W2.heap[g]?=_:=hcc;rw[e,h2.L]at h1
  cases h1
 refine⟨none,W3,hend,?_⟩;exact hQ W3 g cap (hv.frame hF3 htl) (ak_ hrow hF3 (fun g' hg' e=>hgl (by rw[e]at hg';simpa[Value.ownBlock]using hg'))) hgg (h2.frame.trans hF3 (fun b e=>Or.inr (by omega))) ((hF3.block _ (lt_of_block h2.K) (by omega)).trans h2.K)
end A
end
end Go.Proofs.YtinphfpdfodkkaaGreatDoor
