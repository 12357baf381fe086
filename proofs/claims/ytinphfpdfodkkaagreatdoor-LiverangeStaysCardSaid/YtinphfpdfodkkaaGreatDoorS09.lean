/- Texts. -/
import Derived.Test.YtinphfpdfodkkaaGreatDoorS05
import Derived.RangeFuncNested
import Derived.RangeFuncBound
import Derived.RangeFuncCalls
import Derived.RangeFuncLeaves
import Derived.Shelf.Abstract
import Derived.Shelf.RegionOpen
import Derived.OwnWalkIn
import Derived.TacticsInMore
import Derived.LoopNIn
import Derived.LoopIn
import Derived.Lib.OthersKept
import Derived.Shelf.SlIterI.Collect
import Derived.Maps.OwnIn
set_option linter.unusedVariables false
set_option linter.unusedSimpArgs false
set_option maxHeartbeats 8000000
set_option maxRecDepth 100000
namespace Go.Proofs.YtinphfpdfodkkaaGreatDoor
section
open Go.RowKit Go.Shelf
attribute [local go_sem] Oper.semAt_some
namespace A
open H G
structure c6_(O:World->Nat->Prop)(W W':World):Prop where
 frame:H.Frame (O W) W W'
 own:∀b,O W' b->O W b\/W.heap.size<=b
theorem c6_.trans{O:World->Nat->Prop}{A B C:World}(h:c6_ O A B)(k:c6_ O B C):c6_ O A C:=by
 refine⟨⟨k.frame.os.trans h.frame.os,k.frame.tape.trans h.frame.tape,k.frame.output.trans h.frame.output,Nat.le_trans h.frame.size k.frame.size,fun i hi hn=>?_⟩,fun b hb=>?_⟩
 ·exact(k.frame.block i (Nat.lt_of_lt_of_le hi h.frame.size) (fun ho=>(h.own i ho).elim hn (fun h2=>by omega))).trans (h.frame.block i hi hn)
 rcases k.own b hb with h1|h1
 ·exact h.own b h1
 exact Or.inr (Nat.le_trans h.frame.size h1)
theorem c6_.of_below{O:World->Nat->Prop}{W W':World}(hb:Below W.heap.size W W')(ho:∀b,O W' b->O W b):c6_ O W W':=⟨H.Frame.of hb,fun b h=>Or.inl (ho b h)⟩
structure Keeps(O:World->Nat->Prop)(J:Nat->World->Prop)(w0:World):Prop where
 go:∀k W W',J k W->Below W.heap.size W W'->J k W'
 below:∀k W,J k W->Below w0.heap.size w0 W
 lt:∀k W b,J k W->O W b->b<W.heap.size
 old:∀k W W' b,J k W->Below W.heap.size W W'->O W' b->O W b
theorem is_{L ks r:List Nat}{f:Nat->List Nat}{k i x:Nat}(h:L.drop (k+1)=ks.flatMap f++r)(hx:ks[i]?=some x) :
  (∃r',L.drop (k+1+((ks.take i).flatMap f).length)=f x++r')/\k+1+((ks.take i).flatMap f).length+(f x).length=k+1+((ks.take (i+1)).flatMap f).length:=by
 have hi:i<ks.length:=(List.getElem?_eq_some_iff.1 hx).1;have e0:ks=ks.take i++x :: ks.drop (i+1):=by
  have h1:ks.drop i=x :: ks.drop (i+1):=by
   rw[List.drop_eq_getElem_cons hi,(List.getElem?_eq_some_iff.1 hx).2]
  rw[<-h1,List.take_append_drop]
 constructor
 ·refine⟨(ks.drop (i+1)).flatMap f++r,?_⟩
  have e1:ks.flatMap f++r=(ks.take i).flatMap f++(f x++((ks.drop (i+1)).flatMap f++r)):=by
   conv=>lhs;rw[e0]
   rw[List.flatMap_append,List.flatMap_cons,List.append_assoc,List.append_assoc]
  rw[<-List.drop_drop,h,e1,List.drop_left]
 rw[List.take_add_one,hx,List.flatMap_append,List.length_append];simp;omega
theorem hZ_{O:World->Nat->Prop}{W W':World}{base n size:Nat}{e:TypeId}{v:Value}{xs:List Value}(h:W.ownsRow base e size v n xs)(r:c6_ O W W')(hn:∀g,v.ownBlock=some g->¬O W g) :
  W'.ownsRow base e size v n xs/\∀g,v.ownBlock=some g->¬O W' g:=
 ⟨ak_ h r.frame hn,fun g hg ho=>(r.own g ho).elim (hn g hg) (fun h2=>by have:=(World.ownsRow.lt h g hg).2;omega)⟩
theorem walk_it(T:am_)(m:aa_)(pos:Nat->Nat)(w0:World)(hT:ag_ w0 T m pos)(L:List Nat)(l:Nat)(O:World->Nat->Prop)(J:Nat->World->Prop)(K:Keeps O J w0)
  (hY:∀n k W,J k W->k<L.length->YieldAt Fence.wide n Tryz.prog l #[.int .i64 (hd T pos (L.getD k 0))] W fun e W'=>e=.returned (.bool true)/\J (k+1) W'/\c6_ O W W') (c:Nat) :
  has m c=true->∀n k W,(∃r,L.drop k=walk m c++r)->J k W →
  CallsIn Fence.wide n Tryz.prog 99 #[.pointer (some ⟨T.tb,0,none⟩),.int .i64 (hd T pos c),.func (.yield l) #[] #[]] W fun e W'=>e=.returned (.bool true)/\J (k+(walk m c).length) W'/\c6_ O W W':=by
 have hW:=hT.fits.wf;refine hW.down_ind (P:=fun c=>has m c=true->∀n k W,(∃r,L.drop k=walk m c++r)->J k W →
  CallsIn Fence.wide n Tryz.prog 99 #[.pointer (some ⟨T.tb,0,none⟩),.int .i64 (hd T pos c),.func (.yield l) #[] #[]] W fun e W'=>e=.returned (.bool true)/\J (k+(walk m c).length) W'/\c6_ O W W') (fun c ih hc n k W hr hJ=>?_) c
 have hew:=hW.walk_eq c;obtain⟨r,hr⟩:=hr;have hkL:k<L.length:=by
  rcases Nat.lt_or_ge k L.length with h|h
  ·exact h
  rw[List.drop_of_length_le h,hew]at hr;cases hr
 have hLk:L.getD k 0=c:=by
  have h1:(L.drop k)[0]?=some c:=by rw[hr,hew];rfl
  rw[List.getElem?_drop,Nat.add_zero]at h1;simp[List.getD,h1]
 have hfew:=hT.mem.few;have hkf:=cO_ hfew hT.fits hc;have hkh:=fun x (hx:x∈(nd m c).kids)=>by_ hT.fits hc hx;have hlen:(walk m c).length=1+((nd m c).kids.flatMap (walk m)).length:=by rw[hew];simp;omega
 have hdr:L.drop (k+1)=(nd m c).kids.flatMap (walk m)++r:=by
  rw[<-List.drop_drop,hr,hew];rfl
 have y1:=hY (n-1) k W hJ hkL;rw[hLk]at y1;have HK:Hd (∀W',Below w0.heap.size w0 W'->Calls Tryz.prog 94 #[.pointer (some ⟨T.tb,0,none⟩),.int .i64 (hd T pos c)] W' fun e w'=>∃v,e=.returned v/\Below W'.heap.size W' w'/\e2_ T pos W'.heap.size w' v (nd m c).kids):=hi_ (fun W' hb=>kN_ T m pos c W' (hT.below hb) hc);have HIH:=hi_ ih;have HKK:=hi_ K;have HLen:=hi_ hlen;have HDr:=hi_ hdr;have HKh:=hi_ hkh;clear ih K hlen hdr hkh hew hr hY hLk hT hW;generalize hks:(nd m c).kids=ks at *;clear hks;obtain⟨fn,tmps,assign,body,hy,hR⟩:=y1;have HR:=hi_ hR;clear hR;refine callsIn_of_wp Tryz.func99 rfl trivial ?_ rfl
 simp only[Tryz.ntmps99,List.size_toArray,List.length_cons,List.length_nil,Nat.reduceAdd,Nat.reduceSub,Array.replicate_succ,Array.replicate_zero,List.push_toArray,List.append_toArray,List.nil_append,List.cons_append]
 gi_wp2
 refine⟨fun h=>(by cases h),?_⟩;refine HR.o.mono ?_;rintro e W1 ⟨rfl,hJ1,hR1⟩;have HR1:=hi_ hR1;have HJ1:=hi_ hJ1;have hb1:=HKK.o.below _ _ hJ1;have QK:=hi_ (HK.o W1 hb1);clear hR1 hJ1 hb1 HR
 gi_wp2
 refine⟨trivial,fun h=>(by cases h),?_⟩;refine(callsIn_wide.2 QK.o).mono ?_;rintro e W2 ⟨v,rfl,hb2,hown⟩;obtain⟨ao,cap,hv,hcells⟩:=hown.form;subst hv;have HJ2:=hi_ (HKK.o.go _ _ _ HJ1.o hb2);have HR2:=hi_ (HR1.o.trans (c6_.of_below hb2 (fun b hb=>HKK.o.old _ _ _ b HJ1.o hb2 hb)));have HNo2:Hd (∀g,(Value.slice ao ks.length cap).ownBlock=some g->¬O W2 g):=hi_ (fun g hg ho=>by
  have h1:=(World.ownsRow.lt hown g hg).1;have h2:=HKK.o.lt _ _ _ HJ1.o (HKK.o.old _ _ _ g HJ1.o hb2 ho)
  omega)
 have HOwn:=hi_ hown;clear hown hcells hb2 QK HR1 HJ1 HK
 gi_wp2
 gi_loopw [17] (fun v17 wr=>∃i:Nat,v17=.int .i64 (i:Nat)/\i<=ks.length/\Hd (J (k+1+((ks.take i).flatMap (walk m)).length) wr)/\Hd (c6_ O W wr)/\Hd (e2_ T pos W1.heap.size wr (.slice ao ks.length cap) ks)/\Hd (∀g,(Value.slice ao ks.length cap).ownBlock=some g->¬O wr g))
  (fun v17 _=>ks.length-(Go.RowKit.intOf v17).toNat)
 case atStart=>
  exact⟨0,rfl,Nat.zero_le _,HJ2,HR2,HOwn,HNo2⟩
 obtain⟨i,rfl,hi,HJ3,HR3,HO3,HN3⟩:=hrel
 rcases Nat.lt_or_ge i ks.length with hlt|hge
 ·obtain⟨ao',cap',hv,hcells⟩:=HO3.o.form
  obtain⟨g,hao,hg,hbg,hcell⟩:=hcells i ks[i] (List.getElem?_eq_getElem hlt);injection hv with e1 e2 e3
  subst e1 e3;subst hao;have hx:ks[i]?=some ks[i]:=List.getElem?_eq_getElem hlt;have hmem:ks[i]∈ks:=List.getElem_mem hlt;obtain⟨hdr',hln⟩:=is_ (f:=walk m) HDr.o hx;have Q5:=hi_ (HIH.o ks[i] hmem (HKh.o _ hmem) (n-1) _ wr hdr' HJ3.o);rw[hln]at Q5;have hii:(i:Int)<(ks.length:Int):=by omega
  generalize ks[i]=x at *;clear hdr' hln hcells hx hmem HJ3
  gi_wp2
  refine⟨trivial,fun h=>(by cases h),?_⟩;refine Q5.o.mono ?_;rintro e W5 ⟨rfl,hJ5,hR5⟩;have HJ5:=hi_ hJ5;have HR5:=hi_ (HR3.o.trans hR5);obtain⟨o5,n5⟩:=hZ_ HO3.o hR5 HN3.o;have HO5:=hi_ o5;have HN5:=hi_ n5;clear hJ5 hR5 o5 n5
  gi_wp2
  go_roundw
  case rel=>exact⟨i+1,by go_num,by omega,HJ5,HR5,HO5,HN5⟩
  simp[Go.RowKit.intOf];omega
 have hie:i=ks.length:=by omega
 subst hie;have hnot:¬((ks.length:Nat):Int)<((ks.length:Nat):Int):=by omega
 have HJ6:Hd (J (k+(walk m c).length) wr):=hi_ (by
  have h1:=HJ3.o;rw[List.take_length]at h1;rw[HLen.o,<-Nat.add_assoc];exact h1)
 gi_wp2
 go_ret
 exact⟨rfl,HJ6.o,HR3.o⟩
end A
end
section
open Go.RowKit Go.Shelf Go.Maps
attribute [local go_sem] Oper.semAt_some
namespace A
open H G
def apAssign : Code := (Code.region 2 #[{ dst := some 5, op := Op.assign (Operand.tmp 7), type := 3, pos := "iter.go:51", after := #[], guard := none }] false)
def apBody : Code := (Code.block 1 (Code.region 3 #[{ dst := some 8, op := Op.load 39 (Operand.tmp 2), type := 39, pos := "iter.go:52", after := #[], guard := none }, { dst := some 9, op := Op.move (Operand.tmp 5), type := 3, pos := "iter.go:52", after := #[], guard := none }, { dst := some 10, op := Op.buildSlice 39 1 #[(0, Operand.tmp 9)], type := 39, pos := "iter.go:52", after := #[{ on := 1, ground := Ground.data }], guard := none }, { dst := some 11, op := Op.call { callee := Callee.builtin Builtin.append, args := #[Operand.tmp 8, Operand.tmp 10], argTypes := #[39, 39] }, type := 39, pos := "iter.go:52", after := #[{ on := 0, ground := Ground.data }, { on := 2, ground := Ground.data }], guard := none }, { dst := none, op := Op.store 39 (Operand.tmp 2) (Operand.tmp 11), type := 0, pos := "iter.go:52", after := #[{ on := 3, ground := Ground.data }, { on := 3, ground := Ground.chain }, { on := 0, ground := Ground.phase }, { on := 1, ground := Ground.phase }, { on := 2, ground := Ground.phase }, { on := 3, ground := Ground.phase }], guard := none }] false))
def apRec(fn:FuncId)(sv:Value)(Bs D:Nat)(st:LoopState)(pend:Option Code):Loop:=
 { state:=st,pending:=pend,fn,tmps:=#[.slice none 0 0,sv,.pointer (some ⟨Bs,0,none⟩),undef,.slice none 0 0,undef,sv,undef,undef,undef,undef,undef,undef],params:=#[7],assign:=apAssign,body:=apBody,defers:=D }
structure ApAt(w0:World)(fn:FuncId)(sv:Value)(Bs l D:Nat)(vs:Nat->Int)(k:Nat)(W:World):Prop where
 box:∃v,W.heap[Bs]?=some (.cells #[v] 39 (0,0))/\W.ownsRow w0.heap.size 3 1 v k ((List.range k).map (fun i=>Value.int .i64 (vs i)))
 L:W.heap[l]?=some (.loop (apRec fn sv Bs D .ready none))
 K:W.heap[D]?=some (.deferred (some []))
 below:Below w0.heap.size w0 W
def jv_(Bs l D:Nat)(W:World)(b:Nat):Prop:=b=Bs\/b=l\/b=D\/∃v,W.heap[Bs]?=some (.cells #[v] 39 (0,0))/\v.ownBlock=some b
theorem oB_(w0:World)(fn:FuncId)(sv:Value)(Bs l D:Nat)(vs:Nat->Int):Keeps (jv_ Bs l D) (ApAt w0 fn sv Bs l D vs) w0:=by
 refine⟨fun k W W' h hb=>?_,fun k W h=>h.below,fun k W b h ho=>?_,fun k W W' b h hb ho=>?_⟩
 ·obtain⟨v,hv,hr⟩:=h.box
  exact⟨⟨v,(hb.block _ (lt_of_block hv)).trans hv,own_below hr hb⟩,(hb.block _ (lt_of_block h.L)).trans h.L,(hb.block _ (lt_of_block h.K)).trans h.K,h.below.trans (hb.mono h.below.size)⟩
 ·obtain⟨v,hv,hr⟩:=h.box
  rcases ho with e|e|e|⟨v',hv',e⟩
  ·rw[e];exact lt_of_block hv
  ·rw[e];exact lt_of_block h.L
  ·rw[e];exact lt_of_block h.K
  rw[hv]at hv';injection hv' with hv'
  injection hv' with hv' _ _
  have:v=v':=by simpa using hv'
  subst this;exact(World.ownsRow.lt hr b e).2
 obtain⟨v,hv,hr⟩:=h.box
 rcases ho with e|e|e|⟨v',hv',e⟩
 ·exact Or.inl e
 ·exact Or.inr (Or.inl e)
 ·exact Or.inr (Or.inr (Or.inl e))
 exact Or.inr (Or.inr (Or.inr ⟨v',by rw[<-hb.block _ (lt_of_block hv)];exact hv',e⟩))
theorem apYield(m:Nat)(w0:World)(fn:FuncId)(sv:Value)(Bs l D:Nat)(vs:Nat->Int)(hBl:Bs≠l)(hDl:D≠l)(hDB:D≠Bs)(h0B:w0.heap.size<=Bs)(h0l:w0.heap.size<=l)
  (k:Nat) (W:World) (h:ApAt w0 fn sv Bs l D vs k W) (hlen:k<=1000000) :
  YieldAt Fence.wide m Tryz.prog l #[.int .i64 (vs k)] W fun e W'=>e=.returned (.bool true)/\ApAt w0 fn sv Bs l D vs (k+1) W'/\c6_ (jv_ Bs l D) W W':=by
 have hne:39≠3:=by decide
 obtain⟨i0,hi,hz0,hz1,hz2⟩:=info_parts dh_;obtain⟨v,hv,hrow⟩:=h.box;refine⟨fn,#[.slice none 0 0,sv,.pointer (some ⟨Bs,0,none⟩),undef,.slice none 0 0,undef,sv,.int .i64 (vs k),undef,undef,undef,undef,undef],apAssign,apBody,by simpa[apRec]using run_yield (P:=Tryz.prog) (args:=#[.int .i64 (vs k)]) h.L rfl,roundIn_of_wpIn trivial ?_⟩;have hl:l<W.heap.size:=lt_of_block h.L;have hbr:=run_beginRound (P:=Tryz.prog) h.L rfl;obtain⟨W2,hW2⟩:∃W2,W.putObj l (.loop { apRec fn sv Bs D .ready none with state:=.busy })=W2:=⟨_,rfl⟩;rw[hW2]at hbr;have hg2:W.grownBy W2 (some l):=by rw[<-hW2];exact grownBy_putObj_a _ _ _
 have hv2:W2.heap[Bs]?=some (.cells #[v] 39 (0,0)):=by rw[<-hW2];exact(World.putObj_heap_other hBl).trans hv
 have hK2:W2.heap[D]?=some (.deferred (some [])):=by rw[<-hW2];exact(World.putObj_heap_other hDl).trans h.K
 have hL2:W2.heap[l]?=some (.loop { apRec fn sv Bs D .ready none with state:=.busy }):=by rw[<-hW2];exact World.putObj_heap_same hl
 have hrow2:W2.ownsRow w0.heap.size 3 1 v k ((List.range k).map (fun i=>Value.int .i64 (vs i))):=hrow.kept hg2 (ownsRow_ne_a hrow h.L (fun cur e=>by first|cases e|exact hne (Obj.cells.inj e).2.1));have hb2:Below w0.heap.size w0 W2:=h.below.grown hg2 h.below.size (fun k e=>by cases e;exact h0l);have HF2:=hi_ (H.Frame.grown (S:=jv_ Bs l D W) (H.Frame.refl _ W) hg2 (fun k e=>by cases e;exact Or.inl (Or.inr (Or.inl rfl))));obtain⟨hc2,hf2⟩:=cell_of_box_a hv2;have hBlt:Bs<W2.heap.size:=lt_of_block hv2;have hl2:l<W2.heap.size:=lt_of_block hL2;have hDlt:D<W2.heap.size:=lt_of_block hK2;have ne_of:∀{j:Nat} {o:Obj},W2.heap[j]?=some o->(∀cur,o≠.cells cur 3 (0,0))->some j≠v.ownBlock:=fun hj hno=>by
  rcases ownsRow_ne_a hrow2 hj hno with e|e
  ·rw[e];simp
  exact fun e'=>e e'.symm
 have hs2:W.heap.size<=W2.heap.size:=hg2.size;clear hW2;unfold apAssign
 gi_wp2_with gi_round_op_a
 unfold apBody
 gi_wp2_with (first
  | (gi_at_builtin; refine wpListIn_append_own_at _ rfl _ _ 39 rfl w0.heap.size 3 i0 (.int .i64 0) 1 8 Tryz.underlying39 hi hz0 hz1 hz2 rfl (by decide) _ _ _ rfl (hrow2.alloc _) ⟨W2.heap.size, 0, none⟩ 1 1 [.int .i64 (vs k)] rfl rfl (cell_one_new _ _ _) (by simp [Value.oneCell']) (by unfold maxLen; omega) (by omega) (by have := hb2.size; simp; omega) ?_; intro v' w3 hown' hg3 hnil3 hat3
     have hv3:w3.heap[Bs]?=some (.cells #[v] 39 (0,0)):=(hg3.block Bs (by simp;omega) (ne_of hv2 (fun cur e=>by first|cases e|exact hne (Obj.cells.inj e).2.1))).trans ((Below.heap_alloc _ _ Bs hBlt).trans hv2);obtain⟨hc3,hf3⟩:=cell_of_box_a hv3;obtain⟨g',cap',cur',rfl,hbase',hgb',hr1,hr2,hr3,hr4⟩:∃g' cap' cur',v'=.slice (some ⟨g',0,none⟩) (k+1) cap'/\w0.heap.size<=g'/\w3.heap[g']?=some (.cells cur' 3 (0,0))/\k+1<=cap'/\cap'<=maxLen/\cur'.size=cap'*1/\cur'.toList.take ((k+1)*1)=(List.range k).map (fun i=>Value.int .i64 (vs i))++[.int .i64 (vs k)]:=by
      rcases hown'.2 with⟨_,h0⟩|h'
      ·exact absurd h0 (by omega)
      exact h'
     go_frame)
  |gi_round_op_a)
 have hg3':(W2.alloc (.cells #[.int .i64 (vs k)] 3)).grownBy w3 v.ownBlock:=hg3;have hL3:w3.heap[l]?=some (.loop { apRec fn sv Bs D .ready none with state:=.busy }):=(hg3'.block l (by simp;omega) (ne_of hL2 (fun cur e=>by first|cases e|exact hne (Obj.cells.inj e).2.1))).trans ((Below.heap_alloc _ _ l hl2).trans hL2);have hK3:w3.heap[D]?=some (.deferred (some [])):=(hg3'.block D (by simp;omega) (ne_of hK2 (fun cur e=>by first|cases e|exact hne (Obj.cells.inj e).2.1))).trans ((Below.heap_alloc _ _ D hDlt).trans hK2);obtain⟨w4,hw4⟩:∃w4,w3.setCell ⟨Bs,0,none⟩ (.slice (some ⟨g',0,none⟩) (k+1) cap')=w4:=⟨_,rfl⟩;rw[hw4];have hg4:w3.grownBy w4 (some Bs):=by rw[<-hw4];exact grownBy_setCell0_a _ _ _
 have hv4:w4.heap[Bs]?=some (.cells #[.slice (some ⟨g',0,none⟩) (k+1) cap'] 39 (0,0)):=by rw[<-hw4];exact heap_setCell_box_a _ hv3
 have hL4:w4.heap[l]?=some (.loop { apRec fn sv Bs D .ready none with state:=.busy }):=(hg4.block l (lt_of_block hL3) (fun e=>hBl (by cases e;rfl))).trans hL3;have hK4:w4.heap[D]?=some (.deferred (some [])):=(hg4.block D (lt_of_block hK3) (fun e=>hDB (by cases e;rfl))).trans hK3;have hrow4:=hown'.kept hg4 (ownsRow_ne_a hown' hv3 (fun cur e=>by first|cases e|exact hne (Obj.cells.inj e).2.1));have hl4:l<w4.heap.size:=lt_of_block hL4;have hb3:Below w0.heap.size w0 w3:=(hb2.alloc hb2.size _).grown hg3' (by have:=hb2.size;simp;omega) (fun k e=>(hrow2.lt k e).1);have hb4:Below w0.heap.size w0 w4:=hb3.grown hg4 hb3.size (fun k e=>by cases e;exact h0B)
 have HF4:=hi_ (H.Frame.grown (S:=jv_ Bs l D W) (H.Frame.grown (S:=jv_ Bs l D W) (HF2.o.alloc _) hg3' (fun k e=>Or.inl (Or.inr (Or.inr (Or.inr ⟨v,hv,e⟩))))) hg4 (fun k e=>by cases e;exact Or.inl (Or.inl rfl)));clear hw4;have hv5:∀x,(w4.putObj l x).heap[Bs]?=some (.cells #[.slice (some ⟨g',0,none⟩) (k+1) cap'] 39 (0,0)):=fun x=>(World.putObj_heap_other hBl).trans hv4;refine⟨_,_,run_endRound none hL4,rfl,⟨⟨_,hv5 _,?_⟩,World.putObj_heap_same hl4,(World.putObj_heap_other hDl).trans hK4,hb4.grown (grownBy_putObj_a _ _ _) hb4.size (fun k e=>by cases e;exact h0l)⟩,H.Frame.grown (S:=jv_ Bs l D W) HF4.o (grownBy_putObj_a _ _ _) (fun k e=>by cases e;exact Or.inl (Or.inr (Or.inl rfl))),fun b hb=>?_⟩
 ·have:=hrow4.kept (grownBy_putObj_a w4 l (.loop { { apRec fn sv Bs D .ready none with state:=.busy } with state:=if (none:Option Code).isNone then .ready else .done,pending:=none })) (ownsRow_ne_a hrow4 hL4 (fun cur e=>by first|cases e|exact hne (Obj.cells.inj e).2.1))
  rw[List.range_succ,List.map_append];exact this
 rcases hb with e|e|e|⟨v',hv',e⟩
 ·exact Or.inl (Or.inl e)
 ·exact Or.inl (Or.inr (Or.inl e))
 ·exact Or.inl (Or.inr (Or.inr (Or.inl e)))
 rw[hv5]at hv';injection hv' with hv'
 injection hv' with hv' _ _
 have hvv:Value.slice (some ⟨g',0,none⟩) (k+1) cap'=v':=by simpa using hv'
 rw[<-hvv]at e
 rcases hat3 with h1|h1
 ·exact Or.inl (Or.inr (Or.inr (Or.inr ⟨v,hv,h1.symm.trans e⟩)))
 have e:=h1.symm.trans e;injection e with e
 right;have:(W2.alloc (.cells #[.int .i64 (vs k)] 3)).heap.size=W2.heap.size+1:=by simp
 omega
theorem nA_(T:am_)(m:aa_)(pos:Nat->Nat)(w0:World)(hT:ag_ w0 T m pos)(h:Nat)(hh:has m h=true)(l:Nat)(O:World->Nat->Prop)(J:Nat->World->Prop)(K:Keeps O J w0)
  (hY:∀n k W,J k W->k<(walk m h).length->YieldAt Fence.wide n Tryz.prog l #[.int .i64 (hd T pos ((walk m h).getD k 0))] W fun e W'=>e=.returned (.bool true)/\J (k+1) W'/\c6_ O W W')
  (n:Nat) (b1 b2:Nat) (hb1:b1<w0.heap.size) (hb2:b2<w0.heap.size) (c1:w0.cell? ⟨b1,0,none⟩=some (.pointer (some ⟨T.tb,0,none⟩))) (c2:w0.cell? ⟨b2,0,none⟩=some (.int .i64 (hd T pos h)))
  (W:World) (h0:J 0 W) :
  CallsIn Fence.wide n Tryz.prog 98 #[.func (.yield l) #[] #[],.pointer (some ⟨b1,0,none⟩),.pointer (some ⟨b2,0,none⟩)] W fun e W'=>(∃v,e=.returned v)/\J (walk m h).length W':=by
 have hfew:=hT.mem.few;have hbj:=bF_ hfew hT.fits hh;have hpj:=aP_ (T:=T) (pos:=pos) h;have hB0:=K.below _ _ h0;have d1:=(hB0.cell (p:=⟨b1,0,none⟩) hb1).trans c1;have d2:=(hB0.cell (p:=⟨b2,0,none⟩) hb2).trans c2;have QA:=at_ T (hd T pos h) W (hT.below hB0).mem (by omega) (by omega);rw[bM_ hfew hT.fits hh 1]at QA;have HQA:=hi_ QA;have HQW:=hi_ (fun W2 (hJ2:J 0 W2)=>walk_it T m pos w0 hT (walk m h) l O J K hY h hh (n-1) 0 W2 ⟨[],by simp⟩ hJ2);have HGo:=hi_ (fun W2 (hb:Below W.heap.size W W2)=>K.go 0 W W2 h0 hb);have l1:=Nat.lt_of_lt_of_le hb1 hB0.size;have l2:=Nat.lt_of_lt_of_le hb2 hB0.size;clear QA K hY hT h0 hB0 c1 c2;refine callsIn_of_wp Tryz.func98 rfl trivial ?_ rfl
 simp only[Tryz.ntmps98,List.size_toArray,List.length_cons,List.length_nil,Nat.reduceAdd,Nat.reduceSub,Array.replicate_succ,Array.replicate_zero,List.push_toArray,List.append_toArray,List.nil_append,List.cons_append]
 gi_wp2
 refine⟨trivial,fun h=>(by cases h),?_⟩;refine(callsIn_wide.2 HQA.o).mono ?_;rintro e W2 ⟨rfl,hb2'⟩;have HJ2:=hi_ (HGo.o W2 hb2');have e1:=(hb2'.cell (p:=⟨b1,0,none⟩) l1).trans d1;have e2:=(hb2'.cell (p:=⟨b2,0,none⟩) l2).trans d2;clear hb2' d1 d2 HQA HGo
 gi_wp2
 refine⟨trivial,fun h=>(by cases h),?_⟩;refine(HQW.o W2 HJ2.o).mono ?_;rintro e W3 ⟨rfl,hJ3,_⟩;rw[Nat.zero_add]at hJ3
 gi_wp2
 go_end0
 exact⟨⟨_,rfl⟩,hJ3⟩
theorem appendSeq_in(T:am_)(m:aa_)(pos:Nat->Nat)(w:World)(hT:ag_ w T m pos)(h:Nat)(hh:has m h=true)(n:Nat)
  (b1 b2:Nat) (hb1:b1<w.heap.size) (hb2:b2<w.heap.size) (c1:w.cell? ⟨b1,0,none⟩=some (.pointer (some ⟨T.tb,0,none⟩))) (c2:w.cell? ⟨b2,0,none⟩=some (.int .i64 (hd T pos h))) (hlen:(walk m h).length<=1000000) :
  CallsIn Fence.wide n Tryz.prog 157 #[.slice none 0 0,.func (.func 98) #[] #[.pointer (some ⟨b1,0,none⟩),.pointer (some ⟨b2,0,none⟩)]] w fun e w'=>∃v,e=.returned v/\e2_ T pos w.heap.size w' v (walk m h)/\Below w.heap.size w w':=by
 have hne:39≠3:=by decide
 obtain⟨sv,hsv⟩:∃sv,sv=Value.func (.func 98) #[] #[.pointer (some ⟨b1,0,none⟩),.pointer (some ⟨b2,0,none⟩)]:=⟨_,rfl⟩;refine callsIn_of_wp_marks Tryz.func157 rfl trivial ?_ rfl;simp only[Tryz.ntmps157,List.size_toArray,List.length_cons,List.length_nil,Nat.reduceAdd,Nat.reduceSub,Array.replicate_succ,Array.replicate_zero,List.push_toArray,List.append_toArray,List.nil_append,List.cons_append]
 gi_wp2
 refine wpIn_rangeFunc ?_;intro fn hfn;obtain⟨W0,hW0⟩:∃W0,w.alloc (.cells #[.slice none 0 0] 39)=W0:=⟨_,rfl⟩;have hs0:W0.heap.size=w.heap.size+1:=by rw[<-hW0];simp
 have hv0:W0.heap[w.heap.size]?=some (.cells #[.slice none 0 0] 39 (0,0)):=by rw[<-hW0];exact World.alloc_heap_new w _
 have hb0:Below w.heap.size w W0:=by rw[<-hW0];exact(Below.refl _ w).alloc (nl_) _
 rw[hW0];obtain⟨W1,hW1⟩:∃W1,(W0.alloc (.deferred (some []))).alloc (.loop (apRec fn sv w.heap.size W0.heap.size .ready none))=W1:=⟨_,rfl⟩;have hold:∀k,k<W0.heap.size->W1.heap[k]?=W0.heap[k]?:=fun k hk=>by
  rw[<-hW1];exact(Below.heap_alloc _ _ k (by simp;omega)).trans (Below.heap_alloc _ _ k hk)
 have hb1':Below w.heap.size w W1:=by rw[<-hW1];exact(hb0.alloc hb0.size _).alloc (by have:=hb0.size;simp;omega) _
 have hs1:W1.heap.size=W0.heap.size+2:=by rw[<-hW1];simp
 have hM:ApAt w fn sv w.heap.size (W0.heap.size+1) W0.heap.size (fun i=>hd T pos ((walk m h).getD i 0)) 0 W1:=
  ⟨⟨_,(hold w.heap.size (by omega)).trans hv0,⟨rfl,.inl ⟨rfl,rfl⟩⟩⟩,
   by rw[<-hW1];have:=World.alloc_heap_new (W0.alloc (.deferred (some []))) (.loop (apRec fn sv w.heap.size W0.heap.size .ready none));rwa [World.size_alloc]at this,
   by rw[<-hW1];exact(Below.heap_alloc _ _ _ (by simp)).trans (World.alloc_heap_new W0 _),hb1'⟩
 refine⟨W0.heap.size+1,[{ target:=.collected W0.heap.size,args:=#[] }],W1,{ target:=.fn (.func 98) #[.pointer (some ⟨b1,0,none⟩),.pointer (some ⟨b2,0,none⟩)],args:=#[.func (.yield (W0.heap.size+1)) #[] #[]] },W1,98,
  #[.func (.yield (W0.heap.size+1)) #[] #[]] ++ #[.pointer (some ⟨b1,0,none⟩),.pointer (some ⟨b2,0,none⟩)],W1,?_,?_,?_,?_,fun h=>(by cases h),?_⟩
 ·rw[<-hW1,hsv];exact run_enterLoop_outer _ _ _ _ _
 ·simp[resolve,go_sem]
 ·intro f' hf';trivial
 ·simp[invoke,go_sem,enters_of Tryz.func98 (by kernel_rfl) rfl]
 refine(nA_ T m pos w hT h hh (W0.heap.size+1) (jv_ w.heap.size (W0.heap.size+1) W0.heap.size) (ApAt w fn sv w.heap.size (W0.heap.size+1) W0.heap.size (fun i=>hd T pos ((walk m h).getD i 0))) (oB_ _ _ _ _ _ _ _)
  (fun n' k W hJ hk=>apYield n' w fn sv w.heap.size (W0.heap.size+1) W0.heap.size (fun i=>hd T pos ((walk m h).getD i 0)) (by omega) (by omega) (by omega) (nl_) (by omega) k W hJ (by omega)) _ b1 b2 hb1 hb2 c1 c2 W1 hM).mono ?_
 rintro e W2 ⟨⟨v0,rfl⟩,h2⟩;obtain⟨v,hv,hrow⟩:=h2.box;have hend:=run_endLoop (P:=Tryz.prog) h2.L (by simp[apRec]);obtain⟨W3,hW3⟩:∃W3,W2.putObj (W0.heap.size+1) (.loop { apRec fn sv w.heap.size W0.heap.size .ready none with state:=.exhausted })=W3:=⟨_,rfl⟩;rw[hW3]at hend;have hg3:W2.grownBy W3 (some (W0.heap.size+1)):=by rw[<-hW3];exact grownBy_putObj_a _ _ _
 have hv3:W3.heap[w.heap.size]?=some (.cells #[v] 39 (0,0)):=by rw[<-hW3];exact(World.putObj_heap_other (by omega)).trans hv
 have hK3:W3.heap[W0.heap.size]?=some (.deferred (some [])):=by rw[<-hW3];exact(World.putObj_heap_other (by omega)).trans h2.K
 have hrow3:=hrow.kept hg3 (ownsRow_ne_a hrow h2.L (fun cur e=>by first|cases e|exact hne (Obj.cells.inj e).2.1));have hb3:Below w.heap.size w W3:=h2.below.grown hg3 h2.below.size (fun k e=>by cases e;omega);obtain⟨hc3,hf3⟩:=cell_of_box_a hv3;clear hW3;refine⟨none,W3,hend,?_⟩
 gi_wp2
 rw[<-hs0];refine⟨by simp,.inl ⟨_,_,rfl,run_takeDeferred hK3,?_⟩⟩;have hrow4:=hrow3.kept (grownBy_putObj_a W3 W0.heap.size (.deferred none)) (ownsRow_ne_a hrow3 hK3 (fun cur e=>by first|cases e|exact hne (Obj.cells.inj e).2.1));refine⟨_,results_tmp rfl _ _ _,v,rfl,?_,hb3.grown (grownBy_putObj_a _ _ _) hb3.size (fun k e=>by cases e;omega)⟩;unfold e2_;have e1:(List.range (walk m h).length).map (fun i=>Value.int .i64 (hd T pos ((walk m h).getD i 0)))=ih_ T pos (walk m h):=by
  unfold ih_;refine List.ext_getElem (by simp) (fun i h1 h2=>?_);have h3:i<(walk m h).length:=by simpa using h1
  simp[List.getD,h3]
 rw[<-e1];exact hrow4
end A
end
section
open Go.RowKit Go.Shelf Go.Maps
attribute [local go_sem] Oper.semAt_some
namespace A
open H G
structure kp_(O:World->Nat->Prop)(J:Nat->World->Prop)(T:am_)(m:aa_)(pos:Nat->Nat):Prop where
 go:∀k W W',J k W->Below W.heap.size W W'->J k W'
 tree:∀k W,J k W->ag_ W T m pos
 lt:∀k W b,J k W->O W b->b<W.heap.size
 old:∀k W W' b,J k W->Below W.heap.size W W'->O W' b->O W b\/(W.heap.size<=b/\∀cur fz,W'.heap[b]?≠some (.cells cur 3 fz))
theorem nz_(T:am_)(m:aa_)(pos:Nat->Nat)(w0:World)(hT:ag_ w0 T m pos)(L:List Nat)(l:Nat)(O:World->Nat->Prop)(J:Nat->World->Prop)(K:kp_ O J T m pos)
  (hY:∀n k W,J k W->k<L.length->YieldAt Fence.wide n Tryz.prog l #[.int .i64 (hd T pos (L.getD k 0))] W fun e W'=>e=.returned (.bool true)/\J (k+1) W'/\c6_ O W W') (c:Nat) :
  has m c=true->∀n k W,(∃r,L.drop k=walk m c++r)->J k W →
  CallsIn Fence.wide n Tryz.prog 99 #[.pointer (some ⟨T.tb,0,none⟩),.int .i64 (hd T pos c),.func (.yield l) #[] #[]] W fun e W'=>e=.returned (.bool true)/\J (k+(walk m c).length) W'/\c6_ O W W':=by
 have hW:=hT.fits.wf;refine hW.down_ind (P:=fun c=>has m c=true->∀n k W,(∃r,L.drop k=walk m c++r)->J k W →
  CallsIn Fence.wide n Tryz.prog 99 #[.pointer (some ⟨T.tb,0,none⟩),.int .i64 (hd T pos c),.func (.yield l) #[] #[]] W fun e W'=>e=.returned (.bool true)/\J (k+(walk m c).length) W'/\c6_ O W W') (fun c ih hc n k W hr hJ=>?_) c
 have hew:=hW.walk_eq c;obtain⟨r,hr⟩:=hr;have hkL:k<L.length:=by
  rcases Nat.lt_or_ge k L.length with h|h
  ·exact h
  rw[List.drop_of_length_le h,hew]at hr;cases hr
 have hLk:L.getD k 0=c:=by
  have h1:(L.drop k)[0]?=some c:=by rw[hr,hew];rfl
  rw[List.getElem?_drop,Nat.add_zero]at h1;simp[List.getD,h1]
 have hfew:=hT.mem.few;have hkf:=cO_ hfew hT.fits hc;have hkh:=fun x (hx:x∈(nd m c).kids)=>by_ hT.fits hc hx;have hlen:(walk m c).length=1+((nd m c).kids.flatMap (walk m)).length:=by rw[hew];simp;omega
 have hdr:L.drop (k+1)=(nd m c).kids.flatMap (walk m)++r:=by
  rw[<-List.drop_drop,hr,hew];rfl
 have y1:=hY (n-1) k W hJ hkL;rw[hLk]at y1;have HK:Hd (∀W',ag_ W' T m pos->Calls Tryz.prog 94 #[.pointer (some ⟨T.tb,0,none⟩),.int .i64 (hd T pos c)] W' fun e w'=>∃v,e=.returned v/\Below W'.heap.size W' w'/\e2_ T pos W'.heap.size w' v (nd m c).kids):=hi_ (fun W' hb=>kN_ T m pos c W' hb hc);have HIH:=hi_ ih;have HKK:=hi_ K;have HLen:=hi_ hlen;have HDr:=hi_ hdr;have HKh:=hi_ hkh;clear ih K hlen hdr hkh hew hr hY hLk hT hW;generalize hks:(nd m c).kids=ks at *;clear hks;obtain⟨fn,tmps,assign,body,hy,hR⟩:=y1;have HR:=hi_ hR;clear hR;refine callsIn_of_wp Tryz.func99 rfl trivial ?_ rfl
 simp only[Tryz.ntmps99,List.size_toArray,List.length_cons,List.length_nil,Nat.reduceAdd,Nat.reduceSub,Array.replicate_succ,Array.replicate_zero,List.push_toArray,List.append_toArray,List.nil_append,List.cons_append]
 gi_wp2
 refine⟨fun h=>(by cases h),?_⟩;refine HR.o.mono ?_;rintro e W1 ⟨rfl,hJ1,hR1⟩;have HR1:=hi_ hR1;have HJ1:=hi_ hJ1;have hb1:=HKK.o.tree _ _ hJ1;have QK:=hi_ (HK.o W1 hb1);clear hR1 hJ1 hb1 HR
 gi_wp2
 refine⟨trivial,fun h=>(by cases h),?_⟩;refine(callsIn_wide.2 QK.o).mono ?_;rintro e W2 ⟨v,rfl,hb2,hown⟩;obtain⟨ao,cap,hv,hcells⟩:=hown.form;subst hv;have HJ2:=hi_ (HKK.o.go _ _ _ HJ1.o hb2);have HR2:=hi_ (HR1.o.trans ⟨H.Frame.of hb2,fun b hb=>(HKK.o.old _ _ _ b HJ1.o hb2 hb).imp_right And.left⟩);have HNo2:Hd (∀g,(Value.slice ao ks.length cap).ownBlock=some g->¬O W2 g):=hi_ (fun g hg ho=>by
  have h1:=(World.ownsRow.lt hown g hg).1
  rcases HKK.o.old _ _ _ g HJ1.o hb2 ho with h2|h2
  ·have h3:=HKK.o.lt _ _ _ HJ1.o h2
   omega
  obtain⟨cur,hc⟩:=a3_ hown hg;exact h2.2 _ _ hc)
 have HOwn:=hi_ hown;clear hown hcells hb2 QK HR1 HJ1 HK
 gi_wp2
 gi_loopw [17] (fun v17 wr=>∃i:Nat,v17=.int .i64 (i:Nat)/\i<=ks.length/\Hd (J (k+1+((ks.take i).flatMap (walk m)).length) wr)/\Hd (c6_ O W wr)/\Hd (e2_ T pos W1.heap.size wr (.slice ao ks.length cap) ks)/\Hd (∀g,(Value.slice ao ks.length cap).ownBlock=some g->¬O wr g))
  (fun v17 _=>ks.length-(Go.RowKit.intOf v17).toNat)
 case atStart=>
  exact⟨0,rfl,Nat.zero_le _,HJ2,HR2,HOwn,HNo2⟩
 obtain⟨i,rfl,hi,HJ3,HR3,HO3,HN3⟩:=hrel
 rcases Nat.lt_or_ge i ks.length with hlt|hge
 ·obtain⟨ao',cap',hv,hcells⟩:=HO3.o.form
  obtain⟨g,hao,hg,hbg,hcell⟩:=hcells i ks[i] (List.getElem?_eq_getElem hlt);injection hv with e1 e2 e3
  subst e1 e3;subst hao;have hx:ks[i]?=some ks[i]:=List.getElem?_eq_getElem hlt;have hmem:ks[i]∈ks:=List.getElem_mem hlt;obtain⟨hdr',hln⟩:=is_ (f:=walk m) HDr.o hx;have Q5:=hi_ (HIH.o ks[i] hmem (HKh.o _ hmem) (n-1) _ wr hdr' HJ3.o);rw[hln]at Q5;have hii:(i:Int)<(ks.length:Int):=by omega
  generalize ks[i]=x at *;clear hdr' hln hcells hx hmem HJ3
  gi_wp2
  refine⟨trivial,fun h=>(by cases h),?_⟩;refine Q5.o.mono ?_;rintro e W5 ⟨rfl,hJ5,hR5⟩;have HJ5:=hi_ hJ5;have HR5:=hi_ (HR3.o.trans hR5);obtain⟨o5,n5⟩:=hZ_ HO3.o hR5 HN3.o;have HO5:=hi_ o5;have HN5:=hi_ n5;clear hJ5 hR5 o5 n5
  gi_wp2
  go_roundw
  case rel=>exact⟨i+1,by go_num,by omega,HJ5,HR5,HO5,HN5⟩
  simp[Go.RowKit.intOf];omega
 have hie:i=ks.length:=by omega
 subst hie;have hnot:¬((ks.length:Nat):Int)<((ks.length:Nat):Int):=by omega
 have HJ6:Hd (J (k+(walk m c).length) wr):=hi_ (by
  have h1:=HJ3.o;rw[List.take_length]at h1;rw[HLen.o,<-Nat.add_assoc];exact h1)
 gi_wp2
 go_ret
 exact⟨rfl,HJ6.o,HR3.o⟩
theorem hO_(T:am_)(m:aa_)(pos:Nat->Nat)(w0:World)(hT:ag_ w0 T m pos)(h:Nat)(hh:has m h=true)(l:Nat)(O:World->Nat->Prop)(J:Nat->World->Prop)(K:kp_ O J T m pos)
  (hY:∀n k W,J k W->k<(walk m h).length->YieldAt Fence.wide n Tryz.prog l #[.int .i64 (hd T pos ((walk m h).getD k 0))] W fun e W'=>e=.returned (.bool true)/\J (k+1) W'/\c6_ O W W')
  (n:Nat) (b1 b2:Nat) (W:World) (h0:J 0 W) (l1:b1<W.heap.size) (l2:b2<W.heap.size) (d1:W.cell? ⟨b1,0,none⟩=some (.pointer (some ⟨T.tb,0,none⟩))) (d2:W.cell? ⟨b2,0,none⟩=some (.int .i64 (hd T pos h))) :
  CallsIn Fence.wide n Tryz.prog 98 #[.func (.yield l) #[] #[],.pointer (some ⟨b1,0,none⟩),.pointer (some ⟨b2,0,none⟩)] W fun e W'=>(∃v,e=.returned v)/\J (walk m h).length W':=by
 have hfew:=hT.mem.few;have hbj:=bF_ hfew hT.fits hh;have hpj:=aP_ (T:=T) (pos:=pos) h;have QA:=at_ T (hd T pos h) W (K.tree _ _ h0).mem (by omega) (by omega);rw[bM_ hfew hT.fits hh 1]at QA;have HQA:=hi_ QA;have HQW:=hi_ (fun W2 (hJ2:J 0 W2)=>nz_ T m pos w0 hT (walk m h) l O J K hY h hh (n-1) 0 W2 ⟨[],by simp⟩ hJ2);have HGo:=hi_ (fun W2 (hb:Below W.heap.size W W2)=>K.go 0 W W2 h0 hb);clear QA K hY hT h0;refine callsIn_of_wp Tryz.func98 rfl trivial ?_ rfl;simp only[Tryz.ntmps98,List.size_toArray,List.length_cons,List.length_nil,Nat.reduceAdd,Nat.reduceSub,Array.replicate_succ,Array.replicate_zero,List.push_toArray,List.append_toArray,List.nil_append,List.cons_append]
 gi_wp2
 refine⟨trivial,fun h=>(by cases h),?_⟩;refine(callsIn_wide.2 HQA.o).mono ?_;rintro e W2 ⟨rfl,hb2'⟩;have HJ2:=hi_ (HGo.o W2 hb2');have e1:=(hb2'.cell (p:=⟨b1,0,none⟩) l1).trans d1;have e2:=(hb2'.cell (p:=⟨b2,0,none⟩) l2).trans d2;clear hb2' d1 d2 HQA HGo
 gi_wp2
 refine⟨trivial,fun h=>(by cases h),?_⟩;refine(HQW.o W2 HJ2.o).mono ?_;rintro e W3 ⟨rfl,hJ3,_⟩;rw[Nat.zero_add]at hJ3
 gi_wp2
 go_end0
 exact⟨⟨_,rfl⟩,hJ3⟩
end A
end
end Go.Proofs.YtinphfpdfodkkaaGreatDoor
