/- Texts of the proof. -/
import Derived.Test.YtinphfpdfodkkaaGreatDoorM31
import Derived.Test.YtinphfpdfodkkaaGreatDoorM29
import Derived.Test.YtinphfpdfodkkaaGreatDoorM28
set_option linter.unusedVariables false
set_option linter.unusedSimpArgs false
set_option maxHeartbeats 8000000
set_option maxRecDepth 100000
namespace Go.Proofs.YtinphfpdfodkkaaGreatDoor
section
open Go.RowKit Go.Sort
namespace R
open H G A
theorem mcopied:∀n,MCopyOk n
 |0=>fun B M h par deep w _ _ _ _ hlow=>hlow.elim
 |n+1=>mcopy_step n (mcopied n)
theorem mCopy(M:MMem)(h:Nat)(deep:Bool)(w:World)(hM:ModelMem w M)(W:WF M.m)(hh:h<M.nodes.length)(hbig:(copyOf M.m h deep).2.length<=100000)(hattr:∀i,i<M.nodes.length->(nd M.m i).attrs.length<=100000) :
  Calls Tryz.prog 131 #[.pointer (some ⟨M.mb,0,none⟩),.int .i64 (h:Nat),.bool deep] w fun e w'=>∃M',e=.returned (.int .i64 ((copyOf M.m h deep).1:Nat))/\H.Frame M.foot w w'/\ModelMem w' M'/\M'.m=(copyOf M.m h deep).2/\MLike w M M':=by
 have hk:=kind_one W (h:=h) (by rw[M.m_len];exact hh)
 by_cases h0:h=0
 ·have hR:copyOf M.m h deep=(10,M.m):=by unfold copyOf;rw[if_pos (hk.2 h0)]
  rw[hR];subst h0;have HM:=hi_ hM;clear hM hk hbig hattr hR W
  go_enter Tryz.func131,Tryz.ntmps131
  go_wp2_with fail
  refine bodyPost_ret (v:=.int .i64 10) (by simp[results,Tryz.results131,go_sem]) rfl ⟨M,rfl,H.Frame.refl _ _,HM.out,rfl,MLike.refl _ _⟩
 ·have hR:copyOf M.m h deep=(0,copyN 128 M.m h none deep):=by
   unfold copyOf;rw[if_neg (fun e=>h0 (hk.1 e)),copyT_eq 128 M.m h deep M.m.length (Nat.le_refl _) W.low_all (by rw[M.m_len];exact hh) (WF.low W 128 h (by have:=W.depth_pos h;omega))]
  rw[hR]at hbig ⊢;have QC:=hi_ (mcopied 128 M.m.length M h none deep w hM (by rw[M.m_len];exact hh) (by rw[M.m_len];exact Nat.le_refl _) W.low_all (WF.low W 128 h (by have:=W.depth_pos h;omega)) (fun q hq=>by cases hq) hbig (fun i hi=>hattr i (by rw[<-M.m_len];exact hi)) (FewK.of W));rw[show parI none=(-1:Int)from rfl]at QC;have e0:((h:Int)==0)=false:=beq_eq_false_iff_ne.2 (by omega);have e1:¬(h:Int)=0:=by omega
  clear hM hk hbig hattr hR h0 W
  go_enter Tryz.func131,Tryz.ntmps131
  go_wp2_with fail
  refine QC.out.mono ?_;rintro e w1 ⟨M',rfl,hf,hm,hme,hl,_⟩;have HP:=hi_ (⟨hf,hm,hme,hl⟩:_/\_/\_/\_);clear hf hm hme hl QC;go_wp2_with fail
  refine bodyPost_ret (v:=.int .i64 0) (by simp[results,Tryz.results131,go_sem]) rfl ⟨M',rfl,HP.out.1,HP.out.2.1,HP.out.2.2.1,HP.out.2.2.2⟩
end R
end
section
open Go.RowKit Go.Sort
namespace G
def er(x:Node):Node:={ x with attrs:=[] }
structure Sim(m m2:Model):Prop where
 len:m.length=m2.length
 same:∀i,er (nd m i)=er (nd m2 i)
theorem Sim.refl(m:Model):Sim m m:=⟨rfl,fun _=>rfl⟩
theorem Sim.kind{m m2:Model}(h:Sim m m2)(i:Nat):(nd m i).kind=(nd m2 i).kind:=by have:=congrArg Node.kind (h.same i);exact this
theorem Sim.parent{m m2:Model}(h:Sim m m2)(i:Nat):(nd m i).parent=(nd m2 i).parent:=by have:=congrArg Node.parent (h.same i);exact this
theorem Sim.kids{m m2:Model}(h:Sim m m2)(i:Nat):(nd m i).kids=(nd m2 i).kids:=by have:=congrArg Node.kids (h.same i);exact this
theorem Sim.gone{m m2:Model}(h:Sim m m2)(i:Nat):(nd m i).gone=(nd m2 i).gone:=by have:=congrArg Node.gone (h.same i);exact this
theorem Sim.has{m m2:Model}(h:Sim m m2)(i:Nat):G.has m i=G.has m2 i:=by unfold G.has;rw[h.gone]
theorem Sim.wf{m m2:Model}(h:Sim m m2)(W:WF m):WF m2:=W.same h.len.symm fun i=>⟨(h.kind i).symm,(h.parent i).symm,(h.kids i).symm,(h.gone i).symm⟩
end G
namespace A
open H G R
theorem foot_lt_t{w:World}{T:TMem}(h:TreeMem w T){k:Nat}(hk:T.foot k):k<w.heap.size:=by
 rcases hk with e|e|e
 ·rw[e];exact h.blk.lt
 ·rw[e];exact(ownsRow_open h.row).1
 ·exact(World.ownsRow.lt h.free k e).2
theorem TreeMem.frame{S:Nat->Prop}{w w':World}{T:TMem}(h:TreeMem w T)(f:H.Frame S w w')(hn:∀k,T.foot k->¬S k)(ha:∀r,r∈T.slots->∀g,r.attrs.ownBlock=some g->¬S g):TreeMem w' T:=
 ⟨h.blk.frame f (hn _ (Or.inl rfl)),own_frame h.row f (fun g hg=>hn g (Or.inr (Or.inl (by simpa[Value.ownBlock]using hg.symm)))),h.few,h.bb,own_frame h.free f (fun g hg=>hn g (Or.inr (Or.inr hg))),
  fun r hr=>own_frame (h.attrs r hr) f (fun g hg=>ha r hr g hg)⟩
theorem attr_not{w:World}{T:TMem}(h:TreeMem w T){k:Nat}{cs:Array Value}{t:TypeId}(hb:Blk k cs t w)(ht:142≠t):∀r,r∈T.slots->r.attrs.ownBlock≠some k:=fun r hr e=>own_not (h.attrs r hr) hb ht e
theorem attr_not_row{w:World}{T:TMem}(h:TreeMem w T){k B size n:Nat}{v:Value}{xs:List Value}{t:TypeId}(hb:w.ownsRow B t size v n xs)(ht:142≠t)(hk:v.ownBlock=some k):∀r,r∈T.slots->r.attrs.ownBlock≠some k:=fun r hr e=>own_ne (h.attrs r hr) hb ht e hk
theorem attr_model{w:World}{T:TMem}{M:MMem}(h:TreeMem w T)(hM:ModelMem w M){k:Nat}(hk:M.foot k):∀r,r∈T.slots->r.attrs.ownBlock≠some k:=by
 rcases hk with e|e|⟨x,hx,e|e⟩
 ·rw[e];exact attr_not h hM.blk (by decide)
 ·exact attr_not_row h hM.row (by decide) (by rw[e];rfl)
 ·exact attr_not_row h (hM.kids x hx) (by decide) e
 ·exact attr_not_row h (hM.attrs x hx) (by decide) e
structure Tw where
 T:TMem
 m:Model
 pos:Nat->Nat
 M:MMem
 tb:Nat
 hv:Value
 B:Nat
def hv1(T:TMem)(pos:Nat->Nat)(m:Model)(i:Nat):Int:=if has m i then hd T pos i else -1
def hvs(T:TMem)(pos:Nat->Nat)(m:Model)(n:Nat):List Int:=(List.range n).map (hv1 T pos m)
def intVs(l:List Int):List Value:=l.map (Value.int .i64)
theorem intVs_len(l:List Int):(intVs l).length=l.length:=by simp[intVs]
theorem hvs_len(T:TMem)(pos:Nat->Nat)(m:Model)(n:Nat):(hvs T pos m n).length=n:=by simp[hvs]
def Tw.foot(X:Tw)(k:Nat):Prop:=k=X.tb\/X.T.foot k\/X.M.foot k\/X.hv.ownBlock=some k
structure TwIs(w0 w:World)(X:Tw):Prop where
 tree:TreeIs w X.T X.m X.pos
 model:ModelMem w X.M
 sim:Sim X.m X.M.m
 apart:∀k,X.T.foot k->¬X.M.foot k
 blk:Blk X.tb #[.pointer (some ⟨X.T.tb,0,none⟩),.pointer (some ⟨X.M.mb,0,none⟩),X.hv] 41 w
 row:w.ownsRow X.B 3 1 X.hv X.m.length (intVs (hvs X.T X.pos X.m X.m.length))
 hap:∀k,X.hv.ownBlock=some k->¬X.T.foot k/\¬X.M.foot k
 slots:X.T.slots.length<=X.m.length
 bel:Below w0.heap.size w0 w
 low:∀k,X.foot k->w0.heap.size<=k
section
variable {w0 w w':World} {X:Tw}
theorem TwIs.below(h:TwIs w0 w X)(b:Below w.heap.size w w'):TwIs w0 w' X:=
 ⟨h.tree.below b,h.model.below b,h.sim,h.apart,h.blk.below b,own_below h.row b,h.hap,h.slots,h.bel.trans (b.mono h.bel.size),h.low⟩
theorem TwIs.tb_tree(h:TwIs w0 w X):¬X.T.foot X.tb:=fun e=>by
 have hb:=h.blk
 rcases e with e|e|e
 ·rw[e]at hb;exact absurd (blk_type hb h.tree.mem.blk) (by decide)
 ·exact own_not h.tree.mem.row hb (by decide) (by rw[e];rfl)
 ·exact own_not h.tree.mem.free hb (by decide) e
theorem TwIs.tb_model(h:TwIs w0 w X):¬X.M.foot X.tb:=fun e=>by
 have hb:=h.blk
 rcases e with e|e|⟨x,hx,e|e⟩
 ·rw[e]at hb;exact absurd (blk_type hb h.model.blk) (by decide)
 ·exact own_not h.model.row hb (by decide) (by rw[e];rfl)
 ·exact own_not (h.model.kids x hx) hb (by decide) e
 ·exact own_not (h.model.attrs x hx) hb (by decide) e
theorem TwIs.tb_row(h:TwIs w0 w X):X.hv.ownBlock≠some X.tb:=own_not h.row h.blk (by decide)
theorem TwIs.foot_lt(h:TwIs w0 w X){k:Nat}(hk:X.foot k):k<w.heap.size:=by
 rcases hk with e|e|e|e
 ·rw[e];exact h.blk.lt
 ·exact foot_lt_t h.tree.mem e
 ·exact R.foot_lt h.model e
 ·exact(World.ownsRow.lt h.row k e).2
structure Mid(w0 w1:World)(X:Tw):Prop where
 model:ModelMem w1 X.M
 blk:Blk X.tb #[.pointer (some ⟨X.T.tb,0,none⟩),.pointer (some ⟨X.M.mb,0,none⟩),X.hv] 41 w1
 row:w1.ownsRow X.B 3 1 X.hv X.m.length (intVs (hvs X.T X.pos X.m X.m.length))
 bel:Below w0.heap.size w0 w1
theorem TwIs.mid(h:TwIs w0 w X)(f:H.Frame X.T.foot w w'):Mid w0 w' X:=
 ⟨h.model.frame f (fun k hk hs=>h.apart k hs hk),h.blk.frame f h.tb_tree,own_frame h.row f (fun g hg hs=>(h.hap g hg).1 hs),
  h.bel.trans ((f.below (B:=w0.heap.size) (fun k hk=>h.low k (Or.inr (Or.inl hk))) h.bel.size))⟩
theorem Mid.below{w1 w2:World}(h:Mid w0 w1 X)(b:Below w1.heap.size w1 w2):Mid w0 w2 X:=⟨h.model.below b,h.blk.below b,own_below h.row b,h.bel.trans (b.mono h.bel.size)⟩
theorem TwIs.next(h:TwIs w0 w X){T':TMem}{m':Model}{pos':Nat->Nat}{M':MMem}{w1 w2:World}(f1:H.Frame X.T.foot w w1)(g1:Goes w X.T T')(t1:TreeIs w1 T' m' pos')(f2:H.Frame X.M.foot w1 w2)(t2:ModelMem w2 M')(l2:MLike w1 X.M M')
  (hs:Sim m' M'.m) (hlen:m'.length=X.m.length) (hhas:∀i,has m' i=has X.m i) (hpos:∀i,i<X.m.length->pos' i=X.pos i) (hsl:T'.slots.length<=m'.length) :
  TwIs w0 w2 { X with T:=T',m:=m',pos:=pos',M:=M' }:=by
 have hm:=h.mid f1;have hf1:∀k,T'.foot k->X.T.foot k\/w.heap.size<=k:=g1.foot;have hX1:∀k,X.foot k->k<w.heap.size:=fun k hk=>h.foot_lt hk;have hap1:∀k,T'.foot k->¬X.M.foot k:=fun k hk hM=>(hf1 k hk).elim (fun e=>h.apart k e hM) (fun e=>by have:=hX1 k (Or.inr (Or.inr (Or.inl hM)));omega);have ht2:TreeIs w2 T' m' pos':=⟨TreeMem.frame t1.mem f2 hap1 (fun r hr g hg hS=>attr_model t1.mem hm.model hS r hr hg),t1.fits⟩;have hvs_eq:hvs T' pos' m' m'.length=hvs X.T X.pos X.m X.m.length:=by
  unfold hvs;rw[hlen];refine List.map_congr_left fun i hi=>?_;unfold hv1 hd;rw[hhas i,g1.bs,g1.st,hpos i (List.mem_range.1 hi)]
 have hs1:=f1.size;have hs2:=f2.size;refine⟨ht2,t2,hs,fun k hk hM=>?_,?_,?_,fun k hk=>⟨fun e=>?_,fun e=>?_⟩,hsl,?_,fun k hk=>?_⟩
 ·rcases l2.foot k hM with e|e
  ·exact hap1 k hk e
  ·have:=foot_lt_t t1.mem hk;omega
 ·have h1:=hm.blk.frame f2 h.tb_model
  show Blk X.tb #[.pointer (some ⟨T'.tb,0,none⟩),.pointer (some ⟨M'.mb,0,none⟩),X.hv] _ w2;rw[g1.tb,l2.mb];exact h1
 ·show w2.ownsRow X.B _ 1 X.hv m'.length (intVs (hvs T' pos' m' m'.length))
  rw[hvs_eq,hlen];exact own_frame hm.row f2 (fun g hg hS=>(h.hap g hg).2 hS)
 ·rcases hf1 k e with e|e
  ·exact(h.hap k hk).1 e
  ·have:=hX1 k (Or.inr (Or.inr (Or.inr hk)));omega
 ·rcases l2.foot k e with e|e
  ·exact(h.hap k hk).2 e
  ·have:=hX1 k (Or.inr (Or.inr (Or.inr hk)));omega
 ·exact hm.bel.trans (f2.below (B:=w0.heap.size) (fun k hk=>h.low k (Or.inr (Or.inr (Or.inl hk)))) hm.bel.size)
 ·have hw:=h.bel.size
  rcases hk with e|e|e|e
  ·exact h.low k (Or.inl e)
  ·rcases hf1 k e with e|e
   ·exact h.low k (Or.inr (Or.inl e))
   ·omega
  ·rcases l2.foot k e with e|e
   ·exact h.low k (Or.inr (Or.inr (Or.inl e)))
   ·omega
  ·exact h.low k (Or.inr (Or.inr (Or.inr e)))
end
end A
end
section
open Go.RowKit Go.Sort
namespace A
open H G R
theorem TwIs.toMid{w0 w:World}{X:Tw}(h:TwIs w0 w X):Mid w0 w X:=⟨h.model,h.blk,h.row,h.bel⟩
def hvO(X:Tw):Option Nat->Int
 |none=>0
 |some i=>hv1 X.T X.pos X.m i
theorem Mid.cells{w0 w:World}{X:Tw}(h:Mid w0 w X)(hl:0<X.m.length):∃g cap,X.hv=.slice (some ⟨g,0,none⟩) X.m.length cap/\g<w.heap.size/\X.m.length<=cap ∧
  (∀i,i<X.m.length->w.cell? ⟨g,i,none⟩=some (.int .i64 (hv1 X.T X.pos X.m i))/\w.frozen? ⟨g,i,none⟩=false):=by
 obtain⟨g,cap,hv,hb,hl2,hc⟩:=own_some h.row hl;have hr:=h.row;rw[hv]at hr;refine⟨g,cap,hv,hl2,hc,fun i hi=>?_⟩;have h1:=(ownsRow_open hr).2.2.2 i (by rw[intVs_len,hvs_len];exact hi);refine⟨?_,h1.2⟩;rw[h1.1];unfold intVs hvs;rw[List.getElem?_map,List.getElem?_map,List.getElem?_range hi];rfl
theorem cells3{w:World}{g:Nat}{t:TypeId}{a0 a1 a2:Value}(h:Blk g #[a0,a1,a2] t w):w.cell? ⟨g,0,none⟩=some a0/\w.cell? ⟨g,1,none⟩=some a1/\w.cell? ⟨g,2,none⟩=some a2/\g<w.heap.size:=⟨(cells_of h).1 0,(cells_of h).1 1,(cells_of h).1 2,h.lt⟩
theorem tw_handle_has{X:Tw}{o:Option Nat}(h:∀i,o=some i->has X.m i=true):hvO X o=hdO X.T X.pos o:=by
 cases o with
 |none=>rfl
 |some i=>
  show hv1 X.T X.pos X.m i=hd X.T X.pos i;unfold hv1;rw[if_pos (h i rfl)]
theorem row11{α:Type}{c:α->List Value}{B:Nat}{e:TypeId}{w:World}{g cap:Nat}{l:List α}(hc:∀x,(c x).length=11)(h:RecRow c B e 11 w (.slice (some ⟨g,0,none⟩) l.length cap) l){i:Nat}(hi:i<l.length){a0 a1 a2 a3 a4 a5 a6 a7 a8 a9 a10:Value}(ha:c l[i]=[a0,a1,a2,a3,a4,a5,a6,a7,a8,a9,a10]) :
  w.cell? ⟨g,i*11,none⟩=some a0/\w.cell? ⟨g,i*11+1,none⟩=some a1/\w.cell? ⟨g,i*11+2,none⟩=some a2/\w.cell? ⟨g,i*11+3,none⟩=some a3/\w.cell? ⟨g,i*11+4,none⟩=some a4/\w.cell? ⟨g,i*11+5,none⟩=some a5/\w.cell? ⟨g,i*11+6,none⟩=some a6/\w.cell? ⟨g,i*11+7,none⟩=some a7/\w.cell? ⟨g,i*11+8,none⟩=some a8/\w.cell? ⟨g,i*11+9,none⟩=some a9/\w.cell? ⟨g,i*11+10,none⟩=some a10:=by
 have hk:=fun k (hk:k<11)=>(RecRow.cell hc h hi (k:=k) hk).1;rw[ha]at hk;exact⟨hk 0 (by omega),hk 1 (by omega),hk 2 (by omega),hk 3 (by omega),hk 4 (by omega),hk 5 (by omega),hk 6 (by omega),hk 7 (by omega),hk 8 (by omega),hk 9 (by omega),hk 10 (by omega)⟩
theorem tw_handle{w0 w:World}{X:Tw}(h:Mid w0 w X)(hl:0<X.m.length)(o:Option Nat)(ho:∀i,o=some i->i<X.m.length) :
  Calls Tryz.prog 61 #[.pointer (some ⟨X.tb,0,none⟩),.int .i64 (parI o)] w fun e w'=>e=.returned (.int .i64 (hvO X o))/\w=w':=by
 obtain⟨g,cap,hv,hg,hcap,hc⟩:=h.cells hl;obtain⟨c0,c1,c2,hlt⟩:=cells3 h.blk;rw[hv]at c2
 cases o with
 |none=>
  have e0:parI none=-1:=rfl;rw[e0];have HR:Hid (hvO X none=0):=hi_ rfl;generalize hvO X none=R at *;clear e0 ho h hc hv
  go_enter Tryz.func61,Tryz.ntmps61
  go_wp2_with fail
  go_ret
  exact⟨ret_i64 HR.out.symm,rfl⟩
 |some i=>
  have hi:=ho i rfl;have ci:=(hc i hi).1;have e0:parI (some i)=(i:Int):=rfl;rw[e0];have n1:(i:Int)<(X.m.length:Int):=by omega
  have n2:¬(X.m.length:Int)<=(i:Int):=by omega
  have n0:¬(i:Int)<0:=by omega
  have HR:Hid (hvO X (some i)=hv1 X.T X.pos X.m i):=hi_ rfl;generalize hv1 X.T X.pos X.m i=z at *;generalize hvO X (some i)=R at *;generalize X.m.length=n at *;clear e0 ho h hc hv hi
  go_enter Tryz.func61,Tryz.ntmps61
  go_wp2_with fail
  go_ret
  exact⟨ret_i64 HR.out.symm,rfl⟩
theorem two_new(w:World)(c1 c2:Array Value)(t1 t2:TypeId):Blk w.heap.size c1 t1 ((w.alloc (.cells c1 t1)).alloc (.cells c2 t2)).drew/\Blk (w.heap.size+1) c2 t2 ((w.alloc (.cells c1 t1)).alloc (.cells c2 t2)).drew/\Below w.heap.size w ((w.alloc (.cells c1 t1)).alloc (.cells c2 t2)).drew:=by
 refine⟨blk_drew ((Blk.new w c1 t1).alloc _),?_,(((Below.refl w.heap.size w).alloc (Nat.le_refl _) _).alloc (by simp) _).drew⟩;have h3:=Blk.new (w.alloc (.cells c1 t1)) c2 t2;rw[World.size_alloc]at h3;exact blk_drew h3
theorem match_any{w0 w:World}{X:Tw}(h:Mid w0 w X)(hl:0<X.m.length)(T:TMem)(pos:Nat->Nat)(l l2:List Rec)(b1 b2:Nat)(v v2:Value)(hr:RecsAt T pos b1 w v l)(hr2:MRecsAt b2 w v2 l2)(hne:l.length≠l2.length)(hk1:l.length<=1000)(hk2:l2.length<=1000) :
  Calls Tryz.prog 74 #[.pointer (some ⟨X.tb,0,none⟩),v,v2] w fun e w'=>e=.returned (.bool false)/\Below w.heap.size w w':=by
 obtain⟨ao,cap,hv⟩:=RecRow.slice hr;obtain⟨ao2,cap2,hv2⟩:=RecRow.slice hr2;subst hv hv2;have n1:((l.length:Int) != (l2.length:Int))=true:=bne_iff_ne.2 (by omega);have n2:¬(l.length:Int)=(l2.length:Int):=by omega
 clear h hr hr2
 go_enter Tryz.func74,Tryz.ntmps74
 go_wp2_with fail
 go_ret
 exact⟨rfl,Below.refl _ _⟩
theorem match_same{w0 w:World}{X:Tw}(h:Mid w0 w X)(hl:0<X.m.length)(l:List Rec)(b1 b2:Nat)(v v2:Value)(hr:RecsAt X.T X.pos b1 w v l)(hr2:MRecsAt b2 w v2 l)(hk1:l.length<=1000)
  (hn:∀r,r∈l->has X.m r.target=true/\(∀i,r.node=some i->has X.m i=true)/\(∀i,r.prev=some i->has X.m i=true)/\(∀i,r.next=some i->has X.m i=true)) :
  Calls Tryz.prog 74 #[.pointer (some ⟨X.tb,0,none⟩),v,v2] w fun e w'=>e=.returned (.bool true)/\Below w.heap.size w w':=by
 obtain⟨ao,cap,hv⟩:=RecRow.slice hr;obtain⟨ao2,cap2,hv2⟩:=RecRow.slice hr2;subst hv hv2;have HR:=hi_ hr;have HR2:=hi_ hr2;have HMd:=hi_ h;have HN:=hi_ hn;have HB:=hi_ (Below.refl w.heap.size w);clear h hr hr2 hn
 go_enter Tryz.func74,Tryz.ntmps74
 go_wp2_with fail
 go_loopw [7] (fun v7 wr=>∃i:Nat,v7=.int .i64 (i:Nat)/\i<=l.length/\Hid (Below w.heap.size w wr)) (fun v7 _=>l.length-(intOfV v7).toNat)
 case atStart=>exact⟨0,rfl,Nat.zero_le _,HB⟩
 case round=>
  obtain⟨i,rfl,hi,HBi⟩:=hrel;clear HB
  by_cases hlt:i<l.length
  ·have hii:(i:Int)<(l.length:Int):=by omega
   have p0:(0:Int)<=(i:Int):=by omega
   obtain⟨ga,cap',hva,hga1,hga2,_⟩:=own_some HR.out (by omega);injection hva with e1 _ e3
   subst e1 e3;obtain⟨gb,cap',hvb,hgb1,hgb2,_⟩:=own_some HR2.out (by omega);injection hvb with e1 _ e3
   subst e1 e3;have hrA:RecsAt X.T X.pos b1 wr (.slice (some ⟨ga,0,none⟩) l.length cap) l:=own_below HR.out HBi.out;have hrB:MRecsAt b2 wr (.slice (some ⟨gb,0,none⟩) l.length cap2) l:=own_below HR2.out HBi.out;have hga:ga<wr.heap.size:=Nat.lt_of_lt_of_le hga2 HBi.out.size;have hgb:gb<wr.heap.size:=Nat.lt_of_lt_of_le hgb2 HBi.out.size;have hN:=HN.out l[i] (List.getElem_mem hlt);have hMw:=HMd.out.below HBi.out;have htl:l[i].target<X.m.length:=has_lt hN.1;have q1:=fun W (hb:Below wr.heap.size wr W)=>tw_handle (hMw.below hb) hl (some l[i].target) (fun j e=>by injection e with e;rw[<-e];exact htl);have q2:=fun W (hb:Below wr.heap.size wr W)=>tw_handle (hMw.below hb) hl l[i].node (fun j e=>has_lt (hN.2.1 j e));have q3:=fun W (hb:Below wr.heap.size wr W)=>tw_handle (hMw.below hb) hl l[i].prev (fun j e=>has_lt (hN.2.2.1 j e))
   have q4:=fun W (hb:Below wr.heap.size wr W)=>tw_handle (hMw.below hb) hl l[i].next (fun j e=>has_lt (hN.2.2.2 j e));rw[tw_handle_has (fun j e=>by injection e with e;rw[<-e];exact hN.1)]at q1;rw[tw_handle_has hN.2.1]at q2;rw[tw_handle_has hN.2.2.1]at q3;rw[tw_handle_has hN.2.2.2]at q4;obtain⟨rc,hrc⟩:∃rc,rc=l[i]:=⟨_,rfl⟩
   have hA:wr.cell? ⟨ga,i*11,none⟩=some (.int .i64 (rc.kind:Nat))/\wr.cell? ⟨ga,i*11+1,none⟩=some (.int .i64 (hd X.T X.pos rc.target))/\wr.cell? ⟨ga,i*11+2,none⟩=some (.int .i64 (hdO X.T X.pos rc.node))/\wr.cell? ⟨ga,i*11+3,none⟩=some (.int .i64 (hdO X.T X.pos rc.prev))/\wr.cell? ⟨ga,i*11+4,none⟩=some (.int .i64 (hdO X.T X.pos rc.next))/\wr.cell? ⟨ga,i*11+5,none⟩=some (.int .i64 (rc.index:Nat))/\wr.cell? ⟨ga,i*11+6,none⟩=some (.string ⟨rc.name.toArray⟩)/\wr.cell? ⟨ga,i*11+7,none⟩=some (.string ⟨rc.old.toArray⟩)/\wr.cell? ⟨ga,i*11+8,none⟩=some (.bool rc.had)/\wr.cell? ⟨ga,i*11+9,none⟩=some (.int .i64 (rc.count:Nat))/\wr.cell? ⟨ga,i*11+10,none⟩=some (.int .i64 (rc.size:Nat)):=row11 (rcells_len X.T X.pos) hrA hlt (by rw[<-hrc];rfl)
   have hB:wr.cell? ⟨gb,i*11,none⟩=some (.int .i64 (rc.kind:Nat))/\wr.cell? ⟨gb,i*11+1,none⟩=some (.int .i64 (rc.target:Nat))/\wr.cell? ⟨gb,i*11+2,none⟩=some (.int .i64 (parI rc.node))/\wr.cell? ⟨gb,i*11+3,none⟩=some (.int .i64 (parI rc.prev))/\wr.cell? ⟨gb,i*11+4,none⟩=some (.int .i64 (parI rc.next))/\wr.cell? ⟨gb,i*11+5,none⟩=some (.int .i64 (rc.index:Nat))/\wr.cell? ⟨gb,i*11+6,none⟩=some (.string ⟨rc.name.toArray⟩)/\wr.cell? ⟨gb,i*11+7,none⟩=some (.string ⟨rc.old.toArray⟩)/\wr.cell? ⟨gb,i*11+8,none⟩=some (.bool rc.had)/\wr.cell? ⟨gb,i*11+9,none⟩=some (.int .i64 (rc.count:Nat))/\wr.cell? ⟨gb,i*11+10,none⟩=some (.int .i64 (rc.size:Nat)):=row11 mrcells_len hrB hlt (by rw[<-hrc];rfl);rw[<-hrc]at q1 q2 q3 q4
   rw[show parI (some rc.target)=(rc.target:Int)from rfl,show hdO X.T X.pos (some rc.target)=hd X.T X.pos rc.target from rfl]at q1;have Q1:=hi_ q1;have Q2:=hi_ q2;have Q3:=hi_ q3;have Q4:=hi_ q4;clear q1 q2 q3 q4 hN hMw htl hrA hrB hga1 hga2 hgb1 hgb2 hrc;generalize hd X.T X.pos rc.target=zt at *;generalize hdO X.T X.pos rc.node=zn at *;generalize hdO X.T X.pos rc.prev=zp at *;generalize hdO X.T X.pos rc.next=zx at *;generalize ((rc.kind:Nat):Int)=k0 at *;generalize ((rc.target:Nat):Int)=yt at *;generalize parI rc.node=yn at *;generalize parI rc.prev=yp at *;generalize parI rc.next=yx at *;generalize ((rc.index:Nat):Int)=ix at *;generalize (⟨rc.name.toArray⟩:ByteArray)=nm at *;generalize (⟨rc.old.toArray⟩:ByteArray)=od at *;generalize rc.had=hb at *;generalize ((rc.count:Nat):Int)=ct at *
   generalize ((rc.size:Nat):Int)=sz at *;obtain⟨a0,a1,a2,a3,a4,a5,a6,a7,a8,a9,a10⟩:=hA;obtain⟨b0,b1,b2,b3,b4,b5,b6,b7,b8,b9,b10⟩:=hB
   have HSS:Hid (∀w',Below wr.heap.size wr w'->Below wr.heap.size wr w'/\w'.cell? ⟨ga,i*11,none⟩=some (.int .i64 k0)/\w'.cell? ⟨ga,i*11+1,none⟩=some (.int .i64 zt)/\w'.cell? ⟨ga,i*11+2,none⟩=some (.int .i64 zn)/\w'.cell? ⟨ga,i*11+3,none⟩=some (.int .i64 zp)/\w'.cell? ⟨ga,i*11+4,none⟩=some (.int .i64 zx)/\w'.cell? ⟨ga,i*11+5,none⟩=some (.int .i64 ix)/\w'.cell? ⟨ga,i*11+6,none⟩=some (.string nm)/\w'.cell? ⟨ga,i*11+7,none⟩=some (.string od)/\w'.cell? ⟨ga,i*11+8,none⟩=some (.bool hb)/\w'.cell? ⟨ga,i*11+9,none⟩=some (.int .i64 ct)/\w'.cell? ⟨ga,i*11+10,none⟩=some (.int .i64 sz)/\w'.cell? ⟨gb,i*11,none⟩=some (.int .i64 k0)/\w'.cell? ⟨gb,i*11+1,none⟩=some (.int .i64 yt)/\w'.cell? ⟨gb,i*11+2,none⟩=some (.int .i64 yn)/\w'.cell? ⟨gb,i*11+3,none⟩=some (.int .i64 yp)/\w'.cell? ⟨gb,i*11+4,none⟩=some (.int .i64 yx)/\w'.cell? ⟨gb,i*11+5,none⟩=some (.int .i64 ix)/\w'.cell? ⟨gb,i*11+6,none⟩=some (.string nm)/\w'.cell? ⟨gb,i*11+7,none⟩=some (.string od)/\w'.cell? ⟨gb,i*11+8,none⟩=some (.bool hb)/\w'.cell? ⟨gb,i*11+9,none⟩=some (.int .i64 ct)/\w'.cell? ⟨gb,i*11+10,none⟩=some (.int .i64 sz)):=hi_ (fun w' b=>⟨b,(b.cell (p:=⟨ga,i*11,none⟩) hga).trans a0,(b.cell (p:=⟨ga,i*11+1,none⟩) hga).trans a1,(b.cell (p:=⟨ga,i*11+2,none⟩) hga).trans a2,(b.cell (p:=⟨ga,i*11+3,none⟩) hga).trans a3,(b.cell (p:=⟨ga,i*11+4,none⟩) hga).trans a4,(b.cell (p:=⟨ga,i*11+5,none⟩) hga).trans a5,(b.cell (p:=⟨ga,i*11+6,none⟩) hga).trans a6,(b.cell (p:=⟨ga,i*11+7,none⟩) hga).trans a7,(b.cell (p:=⟨ga,i*11+8,none⟩) hga).trans a8,(b.cell (p:=⟨ga,i*11+9,none⟩) hga).trans a9,(b.cell (p:=⟨ga,i*11+10,none⟩) hga).trans a10,(b.cell (p:=⟨gb,i*11,none⟩) hgb).trans b0,(b.cell (p:=⟨gb,i*11+1,none⟩) hgb).trans b1,(b.cell (p:=⟨gb,i*11+2,none⟩) hgb).trans b2,(b.cell (p:=⟨gb,i*11+3,none⟩) hgb).trans b3,(b.cell (p:=⟨gb,i*11+4,none⟩) hgb).trans b4,(b.cell (p:=⟨gb,i*11+5,none⟩) hgb).trans b5,(b.cell (p:=⟨gb,i*11+6,none⟩) hgb).trans b6,(b.cell (p:=⟨gb,i*11+7,none⟩) hgb).trans b7,(b.cell (p:=⟨gb,i*11+8,none⟩) hgb).trans b8,(b.cell (p:=⟨gb,i*11+9,none⟩) hgb).trans b9,(b.cell (p:=⟨gb,i*11+10,none⟩) hgb).trans b10⟩)
   have hb1:Below wr.heap.size wr wr.drew:=(Below.refl wr.heap.size wr).drew;have hw1:wr.drew.heap.size=wr.heap.size:=rfl;have HBd:=hi_ hb1;have HBa:=hi_ (fun(c1:Obj)=>(Below.refl wr.heap.size wr).alloc (Nat.le_refl _) c1);have HBb:=hi_ (fun(c1 c2:Obj)=>((Below.refl wr.heap.size wr).alloc (Nat.le_refl _) c1).alloc (by simp) c2);have HZ0:Hid (wr.heap.size<=wr.heap.size):=hi_ (Nat.le_refl _);have HZ1:Hid (wr.heap.size<=wr.heap.size+1):=hi_ (Nat.le_succ _);clear hb1 hw1;go_upto_region 6 with fail
   go_cut [8,9] (fun s8 s9 wx=>∃A1 A2,s8=.pointer (some ⟨A1,0,none⟩)/\s9=.pointer (some ⟨A2,0,none⟩)/\Hid (Blk A1 #[.int .i64 k0,.int .i64 zt,.int .i64 zn,.int .i64 zp,.int .i64 zx,.int .i64 ix,.string nm,.string od,.bool hb,.int .i64 ct,.int .i64 sz] 73 wx)/\Hid (Blk A2 #[.int .i64 k0,.int .i64 yt,.int .i64 yn,.int .i64 yp,.int .i64 yx,.int .i64 ix,.string nm,.string od,.bool hb,.int .i64 ct,.int .i64 sz] 71 wx)/\Hid (Below wr.heap.size wr wx))
   case first=>
    go_region_held3 (fun w':World=>Below wr.heap.size wr w'/\w'.cell? ⟨ga,i*11,none⟩=some (.int .i64 k0)/\w'.cell? ⟨ga,i*11+1,none⟩=some (.int .i64 zt)/\w'.cell? ⟨ga,i*11+2,none⟩=some (.int .i64 zn)/\w'.cell? ⟨ga,i*11+3,none⟩=some (.int .i64 zp)/\w'.cell? ⟨ga,i*11+4,none⟩=some (.int .i64 zx)/\w'.cell? ⟨ga,i*11+5,none⟩=some (.int .i64 ix)/\w'.cell? ⟨ga,i*11+6,none⟩=some (.string nm)/\w'.cell? ⟨ga,i*11+7,none⟩=some (.string od)/\w'.cell? ⟨ga,i*11+8,none⟩=some (.bool hb)/\w'.cell? ⟨ga,i*11+9,none⟩=some (.int .i64 ct)/\w'.cell? ⟨ga,i*11+10,none⟩=some (.int .i64 sz)/\w'.cell? ⟨gb,i*11,none⟩=some (.int .i64 k0)/\w'.cell? ⟨gb,i*11+1,none⟩=some (.int .i64 yt)/\w'.cell? ⟨gb,i*11+2,none⟩=some (.int .i64 yn)/\w'.cell? ⟨gb,i*11+3,none⟩=some (.int .i64 yp)/\w'.cell? ⟨gb,i*11+4,none⟩=some (.int .i64 yx)/\w'.cell? ⟨gb,i*11+5,none⟩=some (.int .i64 ix)/\w'.cell? ⟨gb,i*11+6,none⟩=some (.string nm)/\w'.cell? ⟨gb,i*11+7,none⟩=some (.string od)/\w'.cell? ⟨gb,i*11+8,none⟩=some (.bool hb)/\w'.cell? ⟨gb,i*11+9,none⟩=some (.int .i64 ct)/\w'.cell? ⟨gb,i*11+10,none⟩=some (.int .i64 sz)) (first|with_reducible assumption|with_reducible exact HSS.out _ HBd.out|with_reducible exact HSS.out _ (HBa.out _).drew|with_reducible exact HSS.out _ (HBb.out _ _).drew|with_reducible exact HSS.out _ (bset (bset (bset (bset (bset (bset (bset (bset (bset (bset (bset (HBb.out _ _).drew HZ0.out) HZ0.out) HZ0.out) HZ0.out) HZ0.out) HZ0.out) HZ0.out) HZ0.out) HZ0.out) HZ0.out) HZ0.out)|with_reducible exact HSS.out _ (bset (bset (bset (bset (bset (bset (bset (bset (bset (bset (bset (HBb.out _ _).drew HZ1.out) HZ1.out) HZ1.out) HZ1.out) HZ1.out) HZ1.out) HZ1.out) HZ1.out) HZ1.out) HZ1.out) HZ1.out)|with_reducible exact HSS.out _ (bset (bset (bset (bset (bset (bset (bset (bset (bset (bset (bset (bset (bset (bset (bset (bset (bset (bset (bset (bset (bset (bset (HBb.out _ _).drew HZ0.out) HZ0.out) HZ0.out) HZ0.out) HZ0.out) HZ0.out) HZ0.out) HZ0.out) HZ0.out) HZ0.out) HZ0.out) HZ1.out) HZ1.out) HZ1.out) HZ1.out) HZ1.out) HZ1.out) HZ1.out) HZ1.out) HZ1.out) HZ1.out) HZ1.out)|with_reducible exact HSS.out _ (bset (bset (bset (bset (bset (bset (bset (bset (bset (bset (bset (bset (bset (bset (bset (bset (bset (bset (bset (bset (bset (bset (HBb.out _ _).drew HZ1.out) HZ1.out) HZ1.out) HZ1.out) HZ1.out) HZ1.out) HZ1.out) HZ1.out) HZ1.out) HZ1.out) HZ1.out) HZ0.out) HZ0.out) HZ0.out) HZ0.out) HZ0.out) HZ0.out) HZ0.out) HZ0.out) HZ0.out) HZ0.out) HZ0.out)) (fail)
    all_goals (
     go_wp2_with fail
     go_meet
     first
      | (have h9 := two_new wr #[.int .i64 k0, .int .i64 zt, .int .i64 zn, .int .i64 zp, .int .i64 zx, .int .i64 ix, .string nm, .string od, .bool hb, .int .i64 ct, .int .i64 sz] #[.int .i64 k0, .int .i64 yt, .int .i64 yn, .int .i64 yp, .int .i64 yx, .int .i64 ix, .string nm, .string od, .bool hb, .int .i64 ct, .int .i64 sz] 73 71
         with_reducible exact⟨_,_,rfl,rfl,hi_ h9.1,hi_ h9.2.1,hi_ h9.2.2⟩)
      | (have h9 := two_new wr #[.int .i64 k0, .int .i64 yt, .int .i64 yn, .int .i64 yp, .int .i64 yx, .int .i64 ix, .string nm, .string od, .bool hb, .int .i64 ct, .int .i64 sz] #[.int .i64 k0, .int .i64 zt, .int .i64 zn, .int .i64 zp, .int .i64 zx, .int .i64 ix, .string nm, .string od, .bool hb, .int .i64 ct, .int .i64 sz] 71 73
         with_reducible exact⟨_,_,rfl,rfl,hi_ h9.2.1,hi_ h9.1,hi_ h9.2.2⟩))
   case rest=>
    obtain⟨A1,A2,rfl,rfl,HA1,HA2,HBx⟩:=hcut;have HBw:=bt_ HBi HBx.out;obtain⟨⟨d0,d1,d2,d3,d4,d5,d6,d7,d8,d9,d10⟩,_⟩:=cells11 HA1.out;obtain⟨⟨e0,e1,e2,e3,e4,e5,e6,e7,e8,e9,e10⟩,_⟩:=cells11 HA2.out;have hA1:=HA1.out.lt;have hA2:=HA2.out.lt;have HBX:=hi_ (fun d:Later wc.heap.size wc=>HBx.out.trans (d.h.mono HBx.out.size));have D0:=lc_ d0 hA1;have E0:=lc_ e0 hA2;have D1:=lc_ d1 hA1;have E1:=lc_ e1 hA2;have D2:=lc_ d2 hA1;have E2:=lc_ e2 hA2;have D3:=lc_ d3 hA1;have E3:=lc_ e3 hA2;have D4:=lc_ d4 hA1;have E4:=lc_ e4 hA2;have D5:=lc_ d5 hA1;have E5:=lc_ e5 hA2;have D6:=lc_ d6 hA1;have E6:=lc_ e6 hA2;have D7:=lc_ d7 hA1;have E7:=lc_ e7 hA2;have D8:=lc_ d8 hA1;have E8:=lc_ e8 hA2;have D9:=lc_ d9 hA1;have E9:=lc_ e9 hA2;have D10:=lc_ d10 hA1;have E10:=lc_ e10 hA2
    clear a0 a1 a2 a3 a4 a5 a6 a7 a8 a9 a10 b0 b1 b2 b3 b4 b5 b6 b7 b8 b9 b10 HSS HBd HBa HBb HZ0 HZ1;go_upto_region 7 with fail
    refine wp_region_later (by kernel_rfl) (by kernel_rfl) ?_;simp only[List.append_eq,List.cons_append,List.nil_append];repeat (go_big_quiet_step (first|(go_at_call_of 61 (Value.int .i64 yt);exact Calls.later_same (Q1.out _ (HBX.out _)))|(go_at_call_of 61 (Value.int .i64 yn);exact Calls.later_same (Q2.out _ (HBX.out _)))|(go_at_call_of 61 (Value.int .i64 yp);exact Calls.later_same (Q3.out _ (HBX.out _)))|(go_at_call_of 61 (Value.int .i64 yx);exact Calls.later_same (Q4.out _ (HBX.out _)))))
    refine wq_ (fun dq=>?_);have HB9:=bt_ HBw dq.h;generalize dq.w=w9 at *;have wq:IntKind.i64.wrap ((i:Int)+1)=(i:Int)+1:=IntWalk.i64_in _ (by omega);clear Q1 Q2 Q3 Q4 d0 d1 d2 d3 d4 d5 d6 d7 d8 d9 d10 e0 e1 e2 e3 e4 e5 e6 e7 e8 e9 e10 D0 D1 D2 D3 D4 D5 D6 D7 D8 D9 D10 E0 E1 E2 E3 E4 E5 E6 E7 E8 E9 E10 HBX;go_wp2_with fail
    go_roundw
    case rel=>exact⟨i+1,by go_num,by omega,HB9⟩
    case measure=>simp[intOfV];omega
  ·have hnl:¬(i:Int)<(l.length:Int):=by omega
   go_wp2_with fail
   go_ret
   exact⟨rfl,HBi.out⟩
end A
end
end Go.Proofs.YtinphfpdfodkkaaGreatDoor
