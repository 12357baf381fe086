/- Texts of the proof. -/
import Derived.Test.YtinphfpdfodkkaaGreatDoorM32
import Derived.Test.YtinphfpdfodkkaaGreatDoorM08
set_option linter.unusedVariables false
set_option linter.unusedSimpArgs false
set_option maxHeartbeats 8000000
set_option maxRecDepth 100000
namespace Go.Proofs.YtinphfpdfodkkaaGreatDoor
section
open Go.RowKit Go.Sort
namespace A
open H G R
structure Rg where
 id:Int
 sn:Int
 si:Int
 en:Int
 ei:Int
structure It where
 id:Int
 root:Int
 ref:Int
 before:Bool
def rgcells(r:Rg):List Value:=[.int .i64 r.id,.int .i64 r.sn,.int .i64 r.si,.int .i64 r.en,.int .i64 r.ei]
theorem rgcells_len(r:Rg):(rgcells r).length=5:=rfl
def itcells(r:It):List Value:=[.int .i64 r.id,.int .i64 r.root,.int .i64 r.ref,.bool r.before]
theorem itcells_len(r:It):(itcells r).length=4:=rfl
structure SMem where
 sb:Nat
 rv:Value
 rs:List Rg
 iv:Value
 its:List It
 last:Int
 B:Nat
theorem cellsT{w:World}{g:Nat}{t:TypeId}{a0 a1 a2:Value}(h:Blk g #[a0,a1,a2] t w):w.cell? ⟨g,0,none⟩=some a0/\w.cell? ⟨g,1,none⟩=some a1/\w.cell? ⟨g,2,none⟩=some a2/\g<w.heap.size:=⟨(cells_of h).1 0,(cells_of h).1 1,(cells_of h).1 2,h.lt⟩
structure SetMem(w:World)(S:SMem):Prop where
 blk:Blk S.sb #[S.rv,S.iv,.int .i64 S.last] 50 w
 rows:RecRow rgcells S.B 54 5 w S.rv S.rs
 itrow:RecRow itcells S.B 116 4 w S.iv S.its
 few:S.rs.length<=10000/\S.its.length<=10000
 lastb:0<=S.last/\S.last<=10000
 bb:S.B<=S.sb
def SMem.foot(S:SMem)(k:Nat):Prop:=k=S.sb\/S.rv.ownBlock=some k\/S.iv.ownBlock=some k
theorem SetMem.below{w w':World}{S:SMem}(h:SetMem w S)(b:Below w.heap.size w w'):SetMem w' S:=⟨h.blk.below b,own_below h.rows b,own_below h.itrow b,h.few,h.lastb,h.bb⟩
theorem SetMem.put{w:World}{S:SMem}(h:SetMem w S){g cap i k:Nat}(hv:S.rv=.slice (some ⟨g,0,none⟩) S.rs.length cap)(hi:i<S.rs.length)(hk:k<5)(u:Value)(f:Rg->Rg)(hf:rgcells (f S.rs[i])=(rgcells S.rs[i]).set k u) :
  SetMem (w.setCell ⟨g,i*5+k,none⟩ u) { S with rs:=S.rs.modify i f }:=by
 have hr:=h.rows;rw[hv]at hr;have hg:(Value.slice (some ⟨g,0,none⟩) S.rs.length cap).ownBlock=some g:=rfl;have n1:S.sb≠g:=fun e=>own_not hr h.blk (by decide) (by rw[hg,e]);have n2:S.iv.ownBlock≠some g:=fun e=>own_ne h.itrow hr (by decide) e hg;refine⟨Blk.far h.blk n1 _ _,?_,own_far h.itrow n2 _ _,by show(S.rs.modify i f).length<=_/\_;rw[List.length_modify];exact h.few,h.lastb,h.bb⟩;show RecRow rgcells S.B _ 5 _ S.rv (S.rs.modify i f);have h9:=RecRow.store rgcells_len hr hi hk u f hf;rw[List.length_modify]at h9;rw[hv];exact h9
def Typed(w:World)(k:Nat)(t:TypeId):Prop:=∃cs,Blk k cs t w
theorem Typed.eq{w:World}{k:Nat}{s t:TypeId}(h:Typed w k s)(g:Typed w k t):s=t:=by
 obtain⟨a,ha⟩:=h;obtain⟨b,hb⟩:=g;exact blk_type ha hb
theorem Typed.lt{w:World}{k:Nat}{t:TypeId}(h:Typed w k t):k<w.heap.size:=by obtain⟨a,ha⟩:=h;exact ha.lt
def setTypes:List TypeId:=[50,54,116]
def twTypes:List TypeId:=[41,92,210,3,142,102,105,143]
theorem types_ne:∀s∈setTypes,∀t∈twTypes,s≠t:=by decide
theorem SetMem.typed{w:World}{S:SMem}(h:SetMem w S){k:Nat}(hk:S.foot k):∃t∈setTypes,Typed w k t:=by
 rcases hk with e|e|e
 ·rw[e];exact⟨_,.head _,_,h.blk⟩
 ·exact⟨_,.tail _ (.head _),own_type h.rows e⟩
 ·exact⟨_,.tail _ (.tail _ (.head _)),own_type h.itrow e⟩
theorem SetMem.foot_lt{w:World}{S:SMem}(h:SetMem w S){k:Nat}(hk:S.foot k):k<w.heap.size:=by
 obtain⟨t,_,ht⟩:=h.typed hk;exact ht.lt
theorem TreeMem.typed{w:World}{T:TMem}(h:TreeMem w T){k:Nat}(hk:T.foot k\/∃r∈T.slots,r.attrs.ownBlock=some k):∃t∈twTypes,Typed w k t:=by
 rcases hk with(e|e|e)|⟨r,hr,e⟩
 ·rw[e];exact⟨_,.tail _ (.head _),_,h.blk⟩
 ·exact⟨_,.tail _ (.tail _ (.head _)),own_type h.row (by rw[e];rfl)⟩
 ·exact⟨_,.tail _ (.tail _ (.tail _ (.head _))),own_type h.free e⟩
 ·exact⟨_,.tail _ (.tail _ (.tail _ (.tail _ (.head _)))),own_type (h.attrs r hr) e⟩
theorem tree_apart{w:World}{T:TMem}{S:SMem}(h:TreeMem w T)(g:SetMem w S){k:Nat}(hk:T.foot k\/∃r∈T.slots,r.attrs.ownBlock=some k):¬S.foot k:=fun hs=>by
 obtain⟨t,ht,h1⟩:=h.typed hk;obtain⟨s,hs2,h2⟩:=g.typed hs;exact types_ne s hs2 t ht (h2.eq h1)
theorem TreeIs.frame{w w':World}{T:TMem}{m:Model}{pos:Nat->Nat}{S:SMem}(h:TreeIs w T m pos)(g:SetMem w S)(f:H.Frame S.foot w w'):TreeIs w' T m pos:=
 ⟨TreeMem.frame h.mem f (fun k hk=>tree_apart h.mem g (Or.inl hk)) (fun r hr b hb=>tree_apart h.mem g (Or.inr ⟨r,hr,hb⟩)),h.fits⟩
def idAt(l:List Int)(i:Nat):Int:=(0 :: l).getD i 0
theorem idAt_succ{l:List Int}{i:Nat}(h:i<l.length):idAt l (i+1)=l[i]:=by
 unfold idAt;simp[List.getD,h]
def Asc(l:List Int):Prop:=∀i (h:i<l.length),idAt l i<l[i]
def RgOk(T:TMem)(m:Model)(pos:Nat->Nat)(r:Rg):Prop:=
 ∃a b:Nat×Nat,(r.sn=hd T pos a.1/\r.si=(a.2:Nat)/\r.en=hd T pos b.1/\r.ei=(b.2:Nat))/\(has m a.1=true/\has m b.1=true)/\(a.2<=G.sizeOf m a.1/\b.2<=G.sizeOf m b.1)/\top m a.1=top m b.1/\lcmp m a b<=0
def ItOk(T:TMem)(m:Model)(pos:Nat->Nat)(x:It):Prop:=
 ∃i j,(x.root=hd T pos i/\x.ref=hd T pos j)/\(has m i=true/\has m j=true)/\contains m i j=true
structure SetOk(T:TMem)(m:Model)(pos:Nat->Nat)(S:SMem):Prop where
 rg:∀r,r∈S.rs->RgOk T m pos r
 it:∀x,x∈S.its->ItOk T m pos x
 rid:Asc (S.rs.map (·.id))
 iid:Asc (S.its.map (·.id))
 rub:∀r,r∈S.rs->r.id<=S.last
 iub:∀x,x∈S.its->x.id<=S.last
theorem okPt_of{m:Model}{i k:Nat}(h:k<=G.sizeOf m i):okPt m i (k:Nat)=true:=by
 unfold okPt;rw[decide_eq_true (by omega),decide_eq_true (by omega)];rfl
theorem small_of{m:Model}(hD:Whole m)(hA:∀i,(nd m i).attrs.length<=100000):Small m:=fun i=>⟨hA i,by have:=(hD i).1;omega⟩
theorem valid_(T:TMem)(m:Model)(pos:Nat->Nat)(S:SMem)(w:World)(hT:TreeIs w T m pos)(hS:SetMem w S)(hD:Whole m)(hA:∀i,(nd m i).attrs.length<=100000)(hl:m.length<=2000)(hok:SetOk T m pos S) :
  Calls Tryz.prog 21 #[.pointer (some ⟨S.sb,0,none⟩),.pointer (some ⟨T.tb,0,none⟩)] w fun e w'=>e=.returned (.bool true)/\Below w.heap.size w w':=by
 have HS:=hi_ hS;have HT:=hi_ hT;have hlb:=hS.lastb;have hfw:=hS.few;have HRg:=hi_ hok.rg;have HIt:=hi_ hok.it;have HRi:=hi_ hok.rid;have HIi:=hi_ hok.iid;have HRu:=hi_ hok.rub;have HIu:=hi_ hok.iub;have HSz:=hi_ (fun i=>size_short hT.fits.wf hD (by omega) i);have QC:=hi_ (fun(a b:Nat×Nat) W (hW:Below w.heap.size w W) (ha:has m a.1=true) (hb:has m b.1=true) (ka:a.2<=G.sizeOf m a.1) (kb:b.2<=G.sizeOf m b.1)=>lcompare T m pos a b W (hT.below hW) (small_of hD hA) ha hb (okPt_of ka) (okPt_of kb) (by have:=HSz.out a.1;omega) (by have:=HSz.out b.1;omega));have QK:=hi_ (fun(i j:Nat) W (hW:Below w.heap.size w W) (hi:has m i=true) (hj:has m j=true)=>contains_ T m pos i j W (hT.below hW) hi hj);obtain⟨ao,cap,hrv⟩:=RecRow.slice hS.rows;obtain⟨ai,capi,hiv⟩:=RecRow.slice hS.itrow;have HRv:=hi_ hrv
 have HIv:=hi_ hiv;obtain⟨c0,c1,c2,hlt⟩:=cellsT hS.blk;rw[hrv]at c0;clear hT hS hok hD hA hl hrv hiv
 go_enter Tryz.func21,Tryz.ntmps21
 go_wp2_with fail
 go_loopw [5,17] (fun v5 v17 wr=>∃i:Nat,v5=.int .i64 (idAt (S.rs.map (·.id)) i)/\v17=.int .i64 (i:Nat)/\i<=S.rs.length/\Hid (Below w.heap.size w wr)) (fun _ v17 _=>S.rs.length-(intOfV v17).toNat)
 case atStart=>exact⟨0,rfl,rfl,Nat.zero_le _,hi_ (Below.refl _ _)⟩
 case round=>
  obtain⟨i,rfl,rfl,hi,HB⟩:=hrel;clear c0 c1 c2 hlt;have HSr:=hi_ (HS.out.below HB.out);obtain⟨c0,c1,c2,hlt⟩:=cellsT HSr.out.blk
  rcases Nat.lt_or_ge i S.rs.length with hlt2|hge
  ·have hii:(i:Int)<(S.rs.length:Int):=by omega
   have hi0:(0:Int)<=(i:Int):=by omega
   have hro:RecRow rgcells S.B 54 5 wr (.slice ao S.rs.length cap) S.rs:=by have:=HSr.out.rows;rwa [HRv.out]at this
   obtain⟨g,cap',e,_,hgl,_⟩:=own_some hro (by omega);injection e with e1 e2 e3
   subst e1 e3;have k0:=(RecRow.cell rgcells_len hro hlt2 (k:=0) (by omega)).1;have k1:=(RecRow.cell rgcells_len hro hlt2 (k:=1) (by omega)).1;have k2:=(RecRow.cell rgcells_len hro hlt2 (k:=2) (by omega)).1;have k3:=(RecRow.cell rgcells_len hro hlt2 (k:=3) (by omega)).1;have k4:=(RecRow.cell rgcells_len hro hlt2 (k:=4) (by omega)).1;have hmem:S.rs[i]∈S.rs:=List.getElem_mem hlt2;obtain⟨a,b,⟨ea1,ea2,eb1,eb2⟩,⟨ha,hb⟩,⟨ka,kb⟩,ht,hc⟩:=HRg.out _ hmem;have hid1:idAt (S.rs.map (·.id)) i<S.rs[i].id:=by have:=HRi.out i (by simpa using hlt2);simpa using this
   have hid2:idAt (S.rs.map (·.id)) (i+1)=S.rs[i].id:=by rw[idAt_succ (by simpa using hlt2)];simp
   have hid3:=HRu.out _ hmem;have QCr:=hi_ (fun W (hW:Below wr.heap.size wr W)=>QC.out a b W (HB.out.trans (hW.mono HB.out.size)) ha hb ka kb);have hcr:cmpRes m a b=(lcmp m a b,0):=if_neg (fun h=>h ht);rw[hcr]at QCr;generalize lcmp m a b=lc at *;generalize idAt (S.rs.map (·.id)) i=li at *;have HNx:=hi_ hid2;generalize S.rs[i]=r at *;obtain⟨rid,rsn,rsi,ren,rei⟩:=r;dsimp only at ea1 ea2 eb1 eb2 hid1 hid2 hid3;unfold pointV at QCr;rw[<-ea1,<-ea2,<-eb1,<-eb2]at QCr;have j0:wr.cell? ⟨g,i*5,none⟩=some (.int .i64 rid):=k0;have j1:wr.cell? ⟨g,i*5+1,none⟩=some (.int .i64 rsn):=k1;have j2:wr.cell? ⟨g,i*5+2,none⟩=some (.int .i64 rsi):=k2;have j3:wr.cell? ⟨g,i*5+3,none⟩=some (.int .i64 ren):=k3;have j4:wr.cell? ⟨g,i*5+4,none⟩=some (.int .i64 rei):=k4
   have d1:decide (0<lc)=false:=decide_eq_false (by omega);have d2:decide (rid<=li)=false:=decide_eq_false (by omega);have d3:decide (S.last<rid)=false:=decide_eq_false (by omega);clear k0 k1 k2 k3 k4 hmem ea1 ea2 eb1 eb2 ha hb ka kb ht hc hcr hid1 hid2 hid3 hro;have hBa:=(Below.refl wr.heap.size wr).alloc (Nat.le_refl _) (.cells #[.int .i64 rid,.int .i64 rsn,.int .i64 rsi,.int .i64 ren,.int .i64 rei] 54);have HBa:=hi_ hBa;have HXa:=hi_ (Blk.new wr #[.int .i64 rid,.int .i64 rsn,.int .i64 rsi,.int .i64 ren,.int .i64 rei] 54);clear hBa;go_wp2_with fail
   refine(QCr.out _ HBa.out).mono ?_;rintro e w5 ⟨rfl,hb5⟩;have HB5:=hi_ ((HB.out.trans (HBa.out.mono HB.out.size)).trans (hb5.mono (Nat.le_trans HB.out.size HBa.out.size)));have HX5:=hi_ (HXa.out.below hb5);have HS5:=hi_ (HS.out.below HB5.out);clear c0 c1 c2 hlt j0 j1 j2 j3 j4 hgl hb5 QCr;obtain⟨c0,c1,c2,hlt⟩:=cellsT HS5.out.blk;obtain⟨⟨b0,_⟩,_⟩:=cells5 HX5.out;have hbl:=HX5.out.lt;have D2:=lc_ c2 hlt;have DB:=lc_ b0 hbl;go_wp2_with fail
   refine wp_region_later (by kernel_rfl) (by kernel_rfl) ?_;repeat (go_big_quiet_step (fail))
   refine wq_ (fun dq=>?_);have HB6:=bt_ HB5 dq.h;have HX6:=hi_ (HX5.out.below dq.h);clear D2 DB c0 c1 c2 hlt b0 hbl;generalize dq.w=w6 at *;obtain⟨⟨b0,_⟩,_⟩:=cells5 HX6.out;go_wp2_with fail
   go_roundw
   case rel=>exact⟨i+1,by rw[HNx.out],by go_num,by omega,HB6⟩
   case measure=>simp[intOfV];omega
  ·have hie:i=S.rs.length:=by omega
   subst hie;have hnot:¬((S.rs.length:Nat):Int)<((S.rs.length:Nat):Int):=by omega
   rw[HIv.out]at c1;go_wp2_with fail
   go_loopw [5,59] (fun v5 v59 wr=>∃i:Nat,v5=.int .i64 (idAt (S.its.map (·.id)) i)/\v59=.int .i64 (i:Nat)/\i<=S.its.length/\Hid (Below w.heap.size w wr)) (fun _ v59 _=>S.its.length-(intOfV v59).toNat)
   case atStart=>exact⟨0,rfl,rfl,Nat.zero_le _,HB⟩
   case round=>
    obtain⟨i,rfl,rfl,hi,HB2⟩:=hrel;clear c0 c1 c2 hlt;have HSq:=hi_ (HS.out.below HB2.out);obtain⟨c0,c1,c2,hlt⟩:=cellsT HSq.out.blk
    rcases Nat.lt_or_ge i S.its.length with hlt2|hge2
    ·have hii:(i:Int)<(S.its.length:Int):=by omega
     have hi0:(0:Int)<=(i:Int):=by omega
     have hro:RecRow itcells S.B 116 4 wr (.slice ai S.its.length capi) S.its:=by have:=HSq.out.itrow;rwa [HIv.out]at this
     obtain⟨g,cap',e,_,hgl,_⟩:=own_some hro (by omega);injection e with e1 e2 e3
     subst e1 e3;have k0:=(RecRow.cell itcells_len hro hlt2 (k:=0) (by omega)).1;have k1:=(RecRow.cell itcells_len hro hlt2 (k:=1) (by omega)).1;have k2:=(RecRow.cell itcells_len hro hlt2 (k:=2) (by omega)).1;have k3:=(RecRow.cell itcells_len hro hlt2 (k:=3) (by omega)).1;have hmem:S.its[i]∈S.its:=List.getElem_mem hlt2;obtain⟨a,b,⟨ea1,ea2⟩,⟨ha,hb⟩,ht⟩:=HIt.out _ hmem;have hid1:idAt (S.its.map (·.id)) i<S.its[i].id:=by have:=HIi.out i (by simpa using hlt2);simpa using this
     have hid2:idAt (S.its.map (·.id)) (i+1)=S.its[i].id:=by rw[idAt_succ (by simpa using hlt2)];simp
     have hid3:=HIu.out _ hmem;have QKr:=hi_ (fun W (hW:Below wr.heap.size wr W)=>QK.out a b W (HB2.out.trans (hW.mono HB2.out.size)) ha hb);rw[ht]at QKr;generalize idAt (S.its.map (·.id)) i=li at *;have HNx:=hi_ hid2;generalize S.its[i]=r at *;obtain⟨rid,rrt,rrf,rbf⟩:=r;dsimp only at ea1 ea2 hid1 hid2 hid3;rw[<-ea1,<-ea2]at QKr;have j0:wr.cell? ⟨g,i*4,none⟩=some (.int .i64 rid):=k0;have j1:wr.cell? ⟨g,i*4+1,none⟩=some (.int .i64 rrt):=k1;have j2:wr.cell? ⟨g,i*4+2,none⟩=some (.int .i64 rrf):=k2;have j3:wr.cell? ⟨g,i*4+3,none⟩=some (.bool rbf):=k3;have d2:decide (rid<=li)=false:=decide_eq_false (by omega);have d3:decide (S.last<rid)=false:=decide_eq_false (by omega);clear k0 k1 k2 k3 hmem ea1 ea2 ha hb ht hid1 hid2 hid3 hro
     have HBa:=hi_ ((Below.refl wr.heap.size wr).alloc (Nat.le_refl _) (.cells #[.int .i64 rid,.int .i64 rrt,.int .i64 rrf,.bool rbf] 116));have HXa:=hi_ (Blk.new wr #[.int .i64 rid,.int .i64 rrt,.int .i64 rrf,.bool rbf] 116);have HSa:=hi_ (HSq.out.below HBa.out);go_upto_region 14 with fail
     generalize wr.alloc (.cells #[.int .i64 rid,.int .i64 rrt,.int .i64 rrf,.bool rbf] 116)=w5 at *;clear c0 c1 c2 hlt j0 j1 j2 j3 hgl;obtain⟨c0,c1,c2,hlt⟩:=cellsT HSa.out.blk;obtain⟨b0,b1,b2⟩:w5.cell? ⟨wr.heap.size,0,none⟩=some (.int .i64 rid)/\w5.cell? ⟨wr.heap.size,1,none⟩=some (.int .i64 rrt)/\w5.cell? ⟨wr.heap.size,2,none⟩=some (.int .i64 rrf):=⟨(cells_of HXa.out).1 0,(cells_of HXa.out).1 1,(cells_of HXa.out).1 2⟩;have hbl:=HXa.out.lt;have D2:=lc_ c2 hlt;have DB:=lc_ b0 hbl;have DC:=lc_ b1 hbl;have DD:=lc_ b2 hbl;refine wp_region_later (by kernel_rfl) (by kernel_rfl) ?_;repeat (go_big_quiet_step ((go_at_call 40;exact Calls.later (QKr.out _ (HBa.out.trans ((Later.h _).mono HBa.out.size))))))
     refine wq_ (fun dq=>?_);have HB6:=hi_ ((HB2.out.trans (HBa.out.mono HB2.out.size)).trans (dq.h.mono (Nat.le_trans HB2.out.size HBa.out.size)));have HX6:=hi_ (HXa.out.below dq.h);clear D2 DB DC DD c0 c1 c2 hlt b0 b1 b2 hbl;generalize dq.w=w6 at *;have b0:=(cells_of HX6.out).1 0;go_wp2_with fail
     go_roundw
     case rel=>exact⟨i+1,by rw[HNx.out],by go_num,by omega,HB6⟩
     case measure=>simp[intOfV];omega
    ·have hie:i=S.its.length:=by omega
     subst hie;have hnot2:¬((S.its.length:Nat):Int)<((S.its.length:Nat):Int):=by omega
     go_wp2_with fail
     go_ret
     exact⟨rfl,HB2.out⟩
def findR(l:List Rg)(id:Int):Option Nat:=l.findIdx? (fun r=>r.id==id)
def SMem.ptr(S:SMem)(id:Int):Option Addr:=match S.rv.ownBlock,findR S.rs id with
 |some g,some i=>some ⟨g,i*5,none⟩
 |_,_=>none
theorem findR_lt{l:List Rg}{id:Int}{i:Nat}(h:findR l id=some i):∃hi:i<l.length,l[i].id=id:=by
 unfold findR at h;obtain⟨h1,h2,_⟩:=List.findIdx?_eq_some_iff_getElem.1 h;exact⟨h1,by simpa using h2⟩
theorem findR_of{l:List Rg}{id:Int}{i:Nat}(hi:i<l.length)(h1:l[i].id=id)(h2:∀j (hj:j<i),l[j].id≠id):findR l id=some i:=by
 unfold findR;exact List.findIdx?_eq_some_iff_getElem.2 ⟨hi,by simpa using h1,fun j hj=>by simpa using h2 j hj⟩
theorem findR_none{l:List Rg}{id:Int}(h:∀j (hj:j<l.length),l[j].id≠id):findR l id=none:=by
 unfold findR;rw[List.findIdx?_eq_none_iff];intro x hx;obtain⟨j,hj,rfl⟩:=List.getElem_of_mem hx;simpa using h j hj
theorem ptr_some{S:SMem}{id:Int}{i g n cap:Nat}(hv:S.rv=.slice (some ⟨g,0,none⟩) n cap)(h:findR S.rs id=some i):S.ptr id=some ⟨g,i*5,none⟩:=by
 unfold SMem.ptr;rw[h,hv];rfl
theorem ptr_no{S:SMem}{id:Int}(h:findR S.rs id=none):S.ptr id=none:=by
 unfold SMem.ptr;rw[h]
 cases S.rv.ownBlock<;>rfl
theorem find_(S:SMem)(id:Int)(w:World)(h:SetMem w S) :
  Calls Tryz.prog 48 #[.pointer (some ⟨S.sb,0,none⟩),.int .i64 id] w fun e w'=>e=.returned (.pointer (S.ptr id))/\w=w':=by
 have HS:=hi_ h;have hfw:=h.few.1;obtain⟨ao,cap,hrv⟩:=RecRow.slice h.rows;have HRv:=hi_ hrv;obtain⟨c0,c1,c2,hlt⟩:=cellsT h.blk;rw[hrv]at c0;obtain⟨R,hR⟩:∃R,R=S.ptr id:=⟨_,rfl⟩;have HR:=hi_ hR;rw[<-hR];clear h hrv hR
 go_enter Tryz.func48,Tryz.ntmps48
 go_wp2_with fail
 go_loopw [11] (fun v11 wr=>∃i:Nat,v11=.int .i64 (i:Nat)/\i<=S.rs.length/\wr=w/\Hid (∀j (hj:j<S.rs.length),j<i->S.rs[j].id≠id))
  (fun v11 _=>S.rs.length-(Go.RowKit.intOf v11).toNat)
 case atStart=>exact⟨0,rfl,Nat.zero_le _,rfl,hi_ (fun j _ hj=>by omega)⟩
 case round=>
  obtain⟨i,rfl,hi,rfl,HI⟩:=hrel
  rcases Nat.lt_or_ge i S.rs.length with hlt2|hge
  ·have hii:(i:Int)<(S.rs.length:Int):=by omega
   have hi0:(0:Int)<=(i:Int):=by omega
   have hro:RecRow rgcells S.B 54 5 wr (.slice ao S.rs.length cap) S.rs:=by have:=HS.out.rows;rwa [HRv.out]at this
   obtain⟨g,cap',e,_,hgl,_⟩:=own_some hro (by omega);injection e with e1 e2 e3
   subst e1 e3;have k0:=(RecRow.cell rgcells_len hro hlt2 (k:=0) (by omega)).1;have j0:wr.cell? ⟨g,i*5,none⟩=some (.int .i64 S.rs[i].id):=k0
   by_cases hid:S.rs[i].id=id
   ·have HF:Hid (R=some ⟨g,i*5,none⟩):=hi_ (by rw[HR.out];exact ptr_some HRv.out (findR_of hlt2 hid (fun j hj=>HI.out j (by omega) hj)))
    have hb:(S.rs[i].id==id)=true:=by rw[hid];exact beq_self_eq_true _
    generalize S.rs[i].id=z at *;clear k0 hro hid;go_wp2_with fail
    exact bodyPost_ret (v:=.pointer (some ⟨g,i*5,none⟩)) (by simp[results,Tryz.results48,go_sem]) rfl ⟨by rw[HF.out],rfl⟩
   ·have HNx:Hid (∀j (hj:j<S.rs.length),j<i+1->S.rs[j].id≠id):=hi_ (fun j hj hj2=>by
     rcases Nat.lt_or_ge j i with h1|h1
     ·exact HI.out j hj h1
     ·have:j=i:=by omega
      subst this;exact hid)
    have hb:(S.rs[i].id==id)=false:=beq_eq_false_iff_ne.2 hid;generalize S.rs[i].id=z at *;clear k0 hro;go_wp2_with fail
    go_roundw
    case rel=>exact⟨i+1,by go_num,by omega,trivial,HNx⟩
    case measure=>simp[Go.RowKit.intOf];omega
  ·have hie:i=S.rs.length:=by omega
   have HF:Hid (R=none):=hi_ (by rw[HR.out];exact ptr_no (findR_none (fun j hj=>HI.out j hj (by omega))));subst hie;have hnot:¬((S.rs.length:Nat):Int)<((S.rs.length:Nat):Int):=by omega
   go_wp2_with fail
   exact bodyPost_ret (v:=.pointer none) (by simp[results,Tryz.results48,go_sem]) rfl ⟨by rw[HF.out],rfl⟩
theorem infoRg:(Tryz.prog.info? 54).map (fun i=>(i.zero,i.size,i.bytes))=some (some (.agg #[.int .i64 0,.int .i64 0,.int .i64 0,.int .i64 0,.int .i64 0]),5,40):=by kernel_rfl
theorem SetMem.num{w:World}{S:SMem}(h:SetMem w S){z:Int}(h0:0<=z)(h1:z<=10000):SetMem (w.setCell ⟨S.sb,2,none⟩ (.int .i64 z)) { S with last:=z }:=by
 have n1:=own_not h.rows h.blk (by decide);have n2:=own_not h.itrow h.blk (by decide);have h9:=h.blk.set 2 (.int .i64 z);simp only[List.setIfInBounds_toArray,List.set_cons_zero,List.set_cons_succ]at h9;exact⟨h9,own_far h.rows n1 _ _,own_far h.itrow n2 _ _,h.few,⟨h0,h1⟩,h.bb⟩
theorem SetMem.row{w w':World}{S:SMem}(h:SetMem w S){g cap:Nat}{l:List Rg}(f:H.Frame (fun k=>S.rv.ownBlock=some k) w w')(hr:RecRow rgcells S.B 54 5 w' (.slice (some ⟨g,0,none⟩) l.length cap) l)(hl:l.length<=10000) :
  SetMem (w'.setCell ⟨S.sb,0,none⟩ (.slice (some ⟨g,0,none⟩) l.length cap)) { S with rv:=.slice (some ⟨g,0,none⟩) l.length cap,rs:=l }:=by
 have hn:=own_not h.rows h.blk (by decide);have hb:Blk S.sb #[S.rv,S.iv,.int .i64 S.last] 50 w':=h.blk.frame f hn;have hi:RecRow itcells S.B 116 4 w' S.iv S.its:=own_frame h.itrow f (fun g hg hs=>own_ne h.itrow h.rows (by decide) hg hs);have n1:=own_not hr hb (by decide);have n2:=own_not hi hb (by decide);have h9:=hb.set 0 (.slice (some ⟨g,0,none⟩) l.length cap);simp only[List.setIfInBounds_toArray,List.set_cons_zero,List.set_cons_succ]at h9;exact⟨h9,own_far hr n1 _ _,own_far hi n2 _ _,⟨hl,h.few.2⟩,h.lastb,h.bb⟩
theorem create_bad(T:TMem)(m:Model)(pos:Nat->Nat)(S:SMem)(z k o:Int)(w:World)(hT:TreeIs w T m pos)(hS:SetMem w S)(hm:Small m)(hp:PtIs T m pos z k o)(ho:o≠0) :
  Calls Tryz.prog 17 #[.pointer (some ⟨S.sb,0,none⟩),.pointer (some ⟨T.tb,0,none⟩),pointV z k] w fun e w'=>e=.returned (.tuple #[.int .i64 0,.int .i64 o])/\Below w.heap.size w w':=by
 have hb1:=((Below.refl w.heap.size w).alloc (Nat.le_refl _) (.cells #[.int .i64 z,.int .i64 k] 31));have hx:=Blk.new w #[.int .i64 z,.int .i64 k] 31;obtain⟨b0,b1⟩:=cells2 hx;have HB1:=hi_ hb1;have Q:=hi_ (check_ T m pos z k o _ (hT.below hb1) hm hp);have ho2:(o==0)=false:=beq_eq_false_iff_ne.2 ho;unfold pointV at *;clear hT hS hm hp hx hb1
 go_enter Tryz.func17,Tryz.ntmps17
 go_wp2_with fail
 refine Q.out.mono ?_;rintro e w2 ⟨rfl,hb2⟩;have HB2:=bt_ HB1 hb2;clear hb2 Q;go_wp2_with fail
 refine bodyPost_ret (v:=.tuple #[.int .i64 0,.int .i64 o]) (by simp[results,Tryz.results17,go_sem]) rfl ⟨rfl,HB2.out⟩
theorem create_ok(T:TMem)(m:Model)(pos:Nat->Nat)(S:SMem)(z k:Int)(w:World)(hT:TreeIs w T m pos)(hS:SetMem w S)(hm:Small m)(hp:PtIs T m pos z k 0)(hr:S.rs.length<10000)(hl:S.last<10000) :
  Calls Tryz.prog 17 #[.pointer (some ⟨S.sb,0,none⟩),.pointer (some ⟨T.tb,0,none⟩),pointV z k] w fun e w'=>∃v,e=.returned (.tuple #[.int .i64 (S.last+1),.int .i64 0])/\H.Frame S.foot w w'/\SetMem w' { S with rv:=v,rs:=S.rs++[⟨S.last+1,z,k,z,k⟩],last:=S.last+1 }/\(∀g,v.ownBlock=some g->S.rv.ownBlock=some g\/w.heap.size<=g):=by
 have hb1:=((Below.refl w.heap.size w).alloc (Nat.le_refl _) (.cells #[.int .i64 z,.int .i64 k] 31));have hx:=Blk.new w #[.int .i64 z,.int .i64 k] 31;obtain⟨b0,b1⟩:=cells2 hx;have HB1:=hi_ hb1;have HX:=hi_ hx;have HS:=hi_ hS;have Q:=hi_ (check_ T m pos z k 0 _ (hT.below hb1) hm hp);have wl:IntKind.i64.wrap (S.last+1)=S.last+1:=IntWalk.i64_in _ (by have:=hS.lastb;omega);have hlb:=hS.lastb;have hsb:=hS.blk.lt;obtain⟨i0,hi0,hz0,hz1,hz2⟩:=info_parts infoRg;unfold pointV at *;clear hT hS hm hp hx hb1
 go_enter Tryz.func17,Tryz.ntmps17
 go_wp2_with fail
 refine Q.out.mono ?_;rintro e w2 ⟨rfl,hb2⟩;have HB2:=bt_ HB1 hb2;have HX2:=hi_ (HX.out.below hb2);have HS2:=hi_ (HS.out.below HB2.out);clear hb2 Q b0 b1;obtain⟨c0,c1,c2,hlt⟩:=cellsT HS2.out.blk;have hf2:=(cells_of HS2.out.blk).2 2 (by show 2<3;omega);go_upto_region 5 with fail
 have HS3:=hi_ (HS2.out.num (z:=S.last+1) (by omega) (by omega));have hnx:w.heap.size≠S.sb:=by omega
 have HX3:=hi_ (HX2.out.far hnx 2 (.int .i64 (S.last+1)));have HF3:=hi_ (Frame.set (S:=S.foot) (Frame.of HB2.out) (g:=S.sb) (Or.inl (Or.inl rfl)) 2 (.int .i64 (S.last+1)));generalize w2.setCell ⟨S.sb,2,none⟩ (.int .i64 (S.last+1))=w3 at *;clear c0 c1 c2 hlt hf2 HS2 HX2 HB2;have hcs:∀W,SetMem W { S with last:=S.last+1 }->Blk w.heap.size #[.int .i64 z,.int .i64 k] 31 W->(W.cell? ⟨S.sb,0,none⟩=some S.rv/\W.cell? ⟨S.sb,2,none⟩=some (.int .i64 (S.last+1))/\W.cell? ⟨w.heap.size,0,none⟩=some (.int .i64 z)/\W.cell? ⟨w.heap.size,1,none⟩=some (.int .i64 k)):=fun W h1 h2=>by
  obtain⟨c0,c1,c2,_⟩:=cellsT h1.blk;obtain⟨b0,b1⟩:=cells2 h2;exact⟨c0,c2,b0,b1⟩
 have HCs:=hi_ hcs;have HFr:=hi_ (show S.B<=S.sb from HS.out.bb);have HFw:=hi_ (show S.rs.length<=10000 from HS.out.few.1);obtain⟨ao,cap0,hrv⟩:=RecRow.slice HS3.out.rows;have hrv:S.rv=.slice ao S.rs.length cap0:=hrv;have HRv:=hi_ hrv;have hl3:S.sb<w3.heap.size:=HS3.out.blk.lt;clear hcs;refine wp_region_flow (fun W=>W.cell? ⟨S.sb,0,none⟩=some S.rv/\W.cell? ⟨S.sb,2,none⟩=some (.int .i64 (S.last+1))/\W.cell? ⟨w.heap.size,0,none⟩=some (.int .i64 z)/\W.cell? ⟨w.heap.size,1,none⟩=some (.int .i64 k)) 14 [(0,false),(1,false),(2,false),(3,false),(4,false),(5,false),(6,false),(7,false),(8,false),(9,false),(10,false),(11,false),(12,true),(13,true)] (by kernel_rfl) (by kernel_rfl) (HCs.out _ (HS3.out.below (Below.refl w3.heap.size w3).drew) (HX3.out.below (Below.refl w3.heap.size w3).drew)) ?_;iterate 12 (
  refine flow_get _ ?_ rfl (fun _ _ _ h=>h) (by rfl) ?_ ?_
  rotate_left
  focus (
   intro W' hS';obtain⟨s0,s1,s2,s3⟩:=hS';go_simp
   first|done|with_reducible rfl)
  simp only[Act.put,List.setIfInBounds_toArray,List.set_cons_zero,List.set_cons_succ])
 change wpFlow _ _ _ _ _ _ _ (World.drew w3);obtain⟨wd,hwd⟩:∃wd,wd=World.drew w3:=⟨_,rfl⟩;have HDr:Hid (Below w3.heap.size w3 wd):=hi_ (by rw[hwd];exact(Below.refl w3.heap.size w3).drew);have HSz:Hid (wd.heap.size=w3.heap.size):=hi_ (by rw[hwd];rfl);rw[<-hwd];clear hwd;have HSd:=hi_ (HS3.out.below HDr.out);have HXd:=hi_ (HX3.out.below HDr.out);have HDa:=hi_ ((Below.refl wd.heap.size wd).alloc (Nat.le_refl _) (.cells #[.int .i64 (S.last+1),.int .i64 z,.int .i64 k,.int .i64 z,.int .i64 k] 54));have hro:wd.ownsRow S.B 54 5 (.slice ao S.rs.length cap0) S.rs.length (S.rs.flatMap rgcells):=by
  have h1:=HSd.out.rows;unfold RecRow at h1;rw[<-HRv.out];exact h1
 have HRo:=hi_ hro;clear hro;refine flow_do _ rfl (fun K hK=>?_);go_simp
 refine hK _ _ (HCs.out _ (HSd.out.below HDa.out) (HXd.out.below HDa.out)) ?_;clear hK K;try simp only[Act.put,List.setIfInBounds_toArray,List.set_cons_zero,List.set_cons_succ]
 rw[hrv];refine flow_do _ rfl (fun K hK=>?_);refine step_append_lies _ (by rfl) _ _ 47 (by rfl) S.B 54 i0 _ 5 40 Tryz.underlying47 hi0 hz0 hz1 hz2 rfl (by decide) (.slice ao S.rs.length cap0) S.rs.length (S.rs.flatMap rgcells) (by rfl) (World.ownsRow.alloc HRo.out _) ⟨wd.heap.size,0,none⟩ 1 1 [.int .i64 (S.last+1),.int .i64 z,.int .i64 k,.int .i64 z,.int .i64 k] (by rfl) (by rfl) (World.news_of_block (cs:=#[.int .i64 (S.last+1),.int .i64 z,.int .i64 k,.int .i64 z,.int .i64 k]) (t:=54) (fr:=(0,0)) (heap_alloc_new wd _)) (by simp[Value.oneCell']) (by omega) (by unfold maxLen;omega) (by omega) (by simp;have:=HFr.out;have:=HSz.out;omega) (wd.heap.size+1) (by simp) ?_;intro g cap w5 hown hgrow hat hglt
 have hF5:H.Frame (fun k=>S.rv.ownBlock=some k) wd w5:=H.Frame.grown (S:=fun k=>S.rv.ownBlock=some k) (Frame.alloc (H.Frame.refl _ wd) _) hgrow (fun k hk=>Or.inl (by rw[HRv.out];exact hk));have hbl:∀k,S.rv.ownBlock=some k->S.foot k:=fun k hk=>Or.inr (Or.inl hk);have hrow:RecRow rgcells S.B 54 5 w5 (.slice (some ⟨g,0,none⟩) (S.rs++[(⟨S.last+1,z,k,z,k⟩:Rg)]).length cap) (S.rs++[(⟨S.last+1,z,k,z,k⟩:Rg)]):=by
  unfold RecRow;rw[List.length_append,List.flatMap_append];exact hown
 have HM:=hi_ (HSd.out.row (g:=g) (cap:=cap) (l:=S.rs++[(⟨S.last+1,z,k,z,k⟩:Rg)]) hF5 hrow (by rw[List.length_append];show S.rs.length+1<=10000;omega));have hn1:S.rv.ownBlock≠some S.sb:=own_not HS3.out.rows HS3.out.blk (by decide);have hn2:S.rv.ownBlock≠some w.heap.size:=own_not HS3.out.rows HX3.out (by decide);have hb5:Blk S.sb #[S.rv,S.iv,.int .i64 (S.last+1)] 50 w5:=HSd.out.blk.frame hF5 hn1;have hx5:Blk w.heap.size #[.int .i64 z,.int .i64 k] 31 w5:=HXd.out.frame hF5 hn2;have HF6:=hi_ (Frame.set (S:=S.foot) ((HF3.out.below_ HDr.out).trans hF5 (fun b hb=>Or.inl (hbl b hb))) (g:=S.sb) (Or.inl (Or.inl rfl)) 0 (.slice (some ⟨g,0,none⟩) (S.rs.length+1) cap))
 have HGo:Hid (S.rv.ownBlock=some g\/w.heap.size<=g):=hi_ (hat.imp (fun e=>by rw[HRv.out];exact e) (fun e=>by have h1:=HF3.out.size;have h2:=HSz.out;omega));obtain⟨c0,c1,c2,hlt⟩:=cellsT hb5;have hfz:=(cells_of hb5).2 0 (by show 0<3;omega);obtain⟨b0,b1⟩:=cells2 hx5;rw[HRv.out]at c0;refine hK _ _ ⟨c0,c2,b0,b1⟩ ?_;have HM2:Hid (SetMem (w5.setCell ⟨S.sb,0,none⟩ (.slice (some ⟨g,0,none⟩) (S.rs.length+1) cap)) { S with rv:=.slice (some ⟨g,0,none⟩) (S.rs.length+1) cap,rs:=S.rs++[(⟨S.last+1,z,k,z,k⟩:Rg)],last:=S.last+1 }):=hi_ (by
  have h1:=HM.out;rw[List.length_append]at h1;exact h1)
 clear hK K hown hgrow hat hF5 hrow HM hb5 hx5 hbl hn1 hn2 HRo HDa HSd HXd;show wpList _ _ _ _ _ _;simp only[List.drop_succ_cons,List.drop_zero];go_wp2_with fail
 refine bodyPost_ret (v:=.tuple #[.int .i64 (S.last+1),.int .i64 0]) (by simp[results,Tryz.results17,go_sem]) rfl ⟨rfl,HF6.out,.slice (some ⟨g,0,none⟩) (S.rs.length+1) cap,HM2.out,fun g' hg'=>?_⟩;have e:g=g':=by simpa[Value.ownBlock]using hg'
 have h1:=HGo.out;rw[hrv]at h1;rw[<-e];exact h1
end A
end
end Go.Proofs.YtinphfpdfodkkaaGreatDoor
