/- Texts. -/
import Derived.Test.YtinphfpdfodkkaaGreatDoorP30
import Derived.Test.YtinphfpdfodkkaaGreatDoorP07
import Derived.Test.YtinphfpdfodkkaaGreatDoorP03
set_option linter.unusedVariables false
set_option linter.unusedSimpArgs false
set_option maxHeartbeats 8000000
set_option maxRecDepth 100000
namespace Go.Proofs.YtinphfpdfodkkaaGreatDoor
section
open Go.RowKit Go.Sort
namespace A
open H G R
structure Rg where
 id:Int
 sn:Int
 si:Int
 en:Int
 ei:Int
structure It where
 id:Int
 root:Int
 ref:Int
 before:Bool
def bb_(r:Rg):List Value:=[.int .i64 r.id,.int .i64 r.sn,.int .i64 r.si,.int .i64 r.en,.int .i64 r.ei]
theorem av_(r:Rg):(bb_ r).length=5:=rfl
def g7_(r:It):List Value:=[.int .i64 r.id,.int .i64 r.root,.int .i64 r.ref,.bool r.before]
theorem dy_(r:It):(g7_ r).length=4:=rfl
structure bh_ where
 sb:Nat
 rv:Value
 rs:List Rg
 iv:Value
 its:List It
 last:Int
 B:Nat
theorem cS_{w:World}{g:Nat}{t:TypeId}{a0 a1 a2:Value}(h:Blk g #[a0,a1,a2] t w):w.cell? ⟨g,0,none⟩=some a0/\w.cell? ⟨g,1,none⟩=some a1/\w.cell? ⟨g,2,none⟩=some a2/\g<w.heap.size:=⟨(ad_ h).1 0,(ad_ h).1 1,(ad_ h).1 2,h.lt⟩
structure as_(w:World)(S:bh_):Prop where
 blk:Blk S.sb #[S.rv,S.iv,.int .i64 S.last] 50 w
 rows:ac_ bb_ S.B 54 5 w S.rv S.rs
 itrow:ac_ g7_ S.B 116 4 w S.iv S.its
 few:S.rs.length<=10000/\S.its.length<=10000
 lastb:0<=S.last/\S.last<=10000
 bb:S.B<=S.sb
def bh_.foot(S:bh_)(k:Nat):Prop:=k=S.sb\/S.rv.ownBlock=some k\/S.iv.ownBlock=some k
theorem as_.below{w w':World}{S:bh_}(h:as_ w S)(b:Below w.heap.size w w'):as_ w' S:=⟨h.blk.below b,own_below h.rows b,own_below h.itrow b,h.few,h.lastb,h.bb⟩
theorem as_.frame{D:Nat->Prop}{w w':World}{S:bh_}(h:as_ w S)(f:H.Frame D w w')(hn:∀k,S.foot k->¬D k):as_ w' S:=
 ⟨h.blk.frame f (hn _ (Or.inl rfl)),ah_ h.rows f (fun g hg=>hn g (Or.inr (Or.inl hg))),ah_ h.itrow f (fun g hg=>hn g (Or.inr (Or.inr hg))),h.few,h.lastb,h.bb⟩
theorem as_.put{w:World}{S:bh_}(h:as_ w S){g cap i k:Nat}(hv:S.rv=.slice (some ⟨g,0,none⟩) S.rs.length cap)(hi:i<S.rs.length)(hk:k<5)(u:Value)(f:Rg->Rg)(hf:bb_ (f S.rs[i])=(bb_ S.rs[i]).set k u) :
  as_ (w.setCell ⟨g,i*5+k,none⟩ u) { S with rs:=S.rs.modify i f }:=by
 have hr:=h.rows;rw[hv]at hr;have hg:(Value.slice (some ⟨g,0,none⟩) S.rs.length cap).ownBlock=some g:=rfl;have n1:S.sb≠g:=fun e=>ak_ hr h.blk (by decide) (by rw[hg,e]);have n2:S.iv.ownBlock≠some g:=fun e=>aU_ h.itrow hr (by decide) e hg;refine⟨Blk.far h.blk n1 _ _,?_,au_ h.itrow n2 _ _,by show(S.rs.modify i f).length<=_/\_;rw[List.length_modify];exact h.few,h.lastb,h.bb⟩;show ac_ bb_ S.B _ 5 _ S.rv (S.rs.modify i f);have h9:=ac_.store av_ hr hi hk u f hf;rw[List.length_modify]at h9;rw[hv];exact h9
def Typed(w:World)(k:Nat)(t:TypeId):Prop:=∃cs,Blk k cs t w
theorem Typed.eq{w:World}{k:Nat}{s t:TypeId}(h:Typed w k s)(g:Typed w k t):s=t:=by
 obtain⟨a,ha⟩:=h;obtain⟨b,hb⟩:=g;exact bM_ ha hb
theorem Typed.lt{w:World}{k:Nat}{t:TypeId}(h:Typed w k t):k<w.heap.size:=by obtain⟨a,ha⟩:=h;exact ha.lt
def eq_:List TypeId:=[50,54,116]
def eP_:List TypeId:=[41,92,210,3,142,102,105,143]
theorem i5_:∀s∈eq_,∀t∈eP_,s≠t:=by decide
theorem as_.typed{w:World}{S:bh_}(h:as_ w S){k:Nat}(hk:S.foot k):∃t∈eq_,Typed w k t:=by
 rcases hk with e|e|e
 ·rw[e];exact⟨_,.head _,_,h.blk⟩
 ·exact⟨_,.tail _ (.head _),aV_ h.rows e⟩
 ·exact⟨_,.tail _ (.tail _ (.head _)),aV_ h.itrow e⟩
theorem as_.foot_lt{w:World}{S:bh_}(h:as_ w S){k:Nat}(hk:S.foot k):k<w.heap.size:=by
 obtain⟨t,_,ht⟩:=h.typed hk;exact ht.lt
theorem be_.typed{w0 w:World}{X:Tw}(h:be_ w0 w X){k:Nat}(hk:X.foot k\/∃r∈X.T.slots,r.attrs.ownBlock=some k):∃t∈eP_,Typed w k t:=by
 rcases hk with(e|(e|e|e)|(e|e|⟨x,hx,e|e⟩)|e)|⟨r,hr,e⟩
 ·rw[e];exact⟨_,.head _,_,h.blk⟩
 ·rw[e];exact⟨_,.tail _ (.head _),_,h.tree.mem.blk⟩
 ·exact⟨_,.tail _ (.tail _ (.head _)),aV_ h.tree.mem.row (by rw[e];rfl)⟩
 ·exact⟨_,.tail _ (.tail _ (.tail _ (.head _))),aV_ h.tree.mem.free e⟩
 ·rw[e];exact⟨_,.tail _ (.tail _ (.tail _ (.tail _ (.tail _ (.head _))))),_,h.model.blk⟩
 ·exact⟨_,.tail _ (.tail _ (.tail _ (.tail _ (.tail _ (.tail _ (.head _)))))),aV_ h.model.row (by rw[e];rfl)⟩
 ·exact⟨_,.tail _ (.tail _ (.tail _ (.head _))),aV_ (h.model.kids x hx) e⟩
 ·exact⟨_,.tail _ (.tail _ (.tail _ (.tail _ (.tail _ (.tail _ (.tail _ (.head _))))))),aV_ (h.model.attrs x hx) e⟩
 ·exact⟨_,.tail _ (.tail _ (.tail _ (.head _))),aV_ h.row e⟩
 ·exact⟨_,.tail _ (.tail _ (.tail _ (.tail _ (.head _)))),aV_ (h.tree.mem.attrs r hr) e⟩
theorem al_.typed{w:World}{T:am_}(h:al_ w T){k:Nat}(hk:T.foot k\/∃r∈T.slots,r.attrs.ownBlock=some k):∃t∈eP_,Typed w k t:=by
 rcases hk with(e|e|e)|⟨r,hr,e⟩
 ·rw[e];exact⟨_,.tail _ (.head _),_,h.blk⟩
 ·exact⟨_,.tail _ (.tail _ (.head _)),aV_ h.row (by rw[e];rfl)⟩
 ·exact⟨_,.tail _ (.tail _ (.tail _ (.head _))),aV_ h.free e⟩
 ·exact⟨_,.tail _ (.tail _ (.tail _ (.tail _ (.head _)))),aV_ (h.attrs r hr) e⟩
theorem gp_{w:World}{T:am_}{S:bh_}(h:al_ w T)(g:as_ w S){k:Nat}(hk:T.foot k\/∃r∈T.slots,r.attrs.ownBlock=some k):¬S.foot k:=fun hs=>by
 obtain⟨t,ht,h1⟩:=h.typed hk;obtain⟨s,hs2,h2⟩:=g.typed hs;exact i5_ s hs2 t ht (h2.eq h1)
theorem aj_.frame{w w':World}{T:am_}{m:aa_}{pos:Nat->Nat}{S:bh_}(h:aj_ w T m pos)(g:as_ w S)(f:H.Frame S.foot w w'):aj_ w' T m pos:=
 ⟨al_.frame h.mem f (fun k hk=>gp_ h.mem g (Or.inl hk)) (fun r hr b hb=>gp_ h.mem g (Or.inr ⟨r,hr,hb⟩)),h.fits⟩
theorem dd_{w0 w:World}{X:Tw}{S:bh_}(h:be_ w0 w X)(g:as_ w S){k:Nat}(hk:X.foot k\/∃r∈X.T.slots,r.attrs.ownBlock=some k):¬S.foot k:=fun hs=>by
 obtain⟨t,ht,h1⟩:=h.typed hk;obtain⟨s,hs2,h2⟩:=g.typed hs;exact i5_ s hs2 t ht (h2.eq h1)
theorem be_.frame{w0 w w':World}{X:Tw}{S:bh_}(h:be_ w0 w X)(g:as_ w S)(f:H.Frame S.foot w w')(hl:∀k,S.foot k->w0.heap.size<=k):be_ w0 w' { X with wD:=w',D:=X.foot }:=
 ⟨⟨al_.frame h.tree.mem f (fun k hk=>dd_ h g (Or.inl (Or.inr (Or.inl hk)))) (fun r hr b hb=>dd_ h g (Or.inr ⟨r,hr,hb⟩)),h.tree.fits⟩,
  h.model.frame f (fun k hk=>dd_ h g (Or.inl (Or.inr (Or.inr (Or.inl hk))))),h.sim,h.apart,h.blk.frame f (dd_ h g (Or.inl (Or.inl rfl))),
  ah_ h.row f (fun k hk=>dd_ h g (Or.inl (Or.inr (Or.inr (Or.inr hk))))),h.hap,h.slots,h.bel.trans (f.below hl h.bel.size),h.low,H.Frame.refl _ _,fun k hk=>Or.inl hk⟩
def lJ_(l:List Int)(i:Nat):Int:=(0 :: l).getD i 0
theorem hN_{l:List Int}{i:Nat}(h:i<l.length):lJ_ l (i+1)=l[i]:=by
 unfold lJ_;simp[List.getD,h]
def Asc(l:List Int):Prop:=∀i (h:i<l.length),lJ_ l i<l[i]
def RgOk(T:am_)(m:aa_)(pos:Nat->Nat)(r:Rg):Prop:=
 ∃a b:Nat×Nat,(r.sn=hd T pos a.1/\r.si=(a.2:Nat)/\r.en=hd T pos b.1/\r.ei=(b.2:Nat))/\(has m a.1=true/\has m b.1=true)/\(a.2<=G.sizeOf m a.1/\b.2<=G.sizeOf m b.1)/\top m a.1=top m b.1/\lcmp m a b<=0
def ItOk(T:am_)(m:aa_)(pos:Nat->Nat)(x:It):Prop:=
 ∃i j,(x.root=hd T pos i/\x.ref=hd T pos j)/\(has m i=true/\has m j=true)/\contains m i j=true
structure SetOk(T:am_)(m:aa_)(pos:Nat->Nat)(S:bh_):Prop where
 rg:∀r,r∈S.rs->RgOk T m pos r
 it:∀x,x∈S.its->ItOk T m pos x
 rid:Asc (S.rs.map (·.id))
 iid:Asc (S.its.map (·.id))
 rub:∀r,r∈S.rs->r.id<=S.last
 iub:∀x,x∈S.its->x.id<=S.last
theorem eU_{m:aa_}{i k:Nat}(h:k<=G.sizeOf m i):mS_ m i (k:Nat)=true:=by
 unfold mS_;rw[decide_eq_true (by omega),decide_eq_true (by omega)];rfl
theorem gW_{m:aa_}(hD:Whole m)(hA:∀i,(nd m i).attrs.length<=100000):gm_ m:=fun i=>⟨hA i,by have:=(hD i).1;omega⟩
theorem nH_(T:am_)(m:aa_)(pos:Nat->Nat)(S:bh_)(w:World)(hT:aj_ w T m pos)(hS:as_ w S)(hD:Whole m)(hA:∀i,(nd m i).attrs.length<=100000)(hl:m.length<=2000)(hok:SetOk T m pos S) :
  Calls Tryz.prog 21 #[.pointer (some ⟨S.sb,0,none⟩),.pointer (some ⟨T.tb,0,none⟩)] w fun e w'=>e=.returned (.bool true)/\Below w.heap.size w w':=by
 have HS:=hi_ hS;have HT:=hi_ hT;have hlb:=hS.lastb;have hfw:=hS.few;have HRg:=hi_ hok.rg;have HIt:=hi_ hok.it;have HRi:=hi_ hok.rid;have HIi:=hi_ hok.iid;have HRu:=hi_ hok.rub;have HIu:=hi_ hok.iub;have HSz:=hi_ (fun i=>cJ_ hT.fits.wf hD (by omega) i);have QC:=hi_ (fun(a b:Nat×Nat) W (hW:Below w.heap.size w W) (ha:has m a.1=true) (hb:has m b.1=true) (ka:a.2<=G.sizeOf m a.1) (kb:b.2<=G.sizeOf m b.1)=>ju_ T m pos a b W (hT.below hW) (gW_ hD hA) ha hb (eU_ ka) (eU_ kb) (by have:=HSz.out a.1;omega) (by have:=HSz.out b.1;omega));have QK:=hi_ (fun(i j:Nat) W (hW:Below w.heap.size w W) (hi:has m i=true) (hj:has m j=true)=>dN_ T m pos i j W (hT.below hW) hi hj);obtain⟨ao,cap,hrv⟩:=ac_.slice hS.rows;obtain⟨ai,capi,hiv⟩:=ac_.slice hS.itrow;have HRv:=hi_ hrv
 have HIv:=hi_ hiv;obtain⟨c0,c1,c2,hlt⟩:=cS_ hS.blk;rw[hrv]at c0;clear hT hS hok hD hA hl hrv hiv
 go_enter Tryz.func21,Tryz.ntmps21
 go_wp2_with fail
 go_loopw [5,17] (fun v5 v17 wr=>∃i:Nat,v5=.int .i64 (lJ_ (S.rs.map (·.id)) i)/\v17=.int .i64 (i:Nat)/\i<=S.rs.length/\Hid (Below w.heap.size w wr)) (fun _ v17 _=>S.rs.length-(aN_ v17).toNat)
 case atStart=>exact⟨0,rfl,rfl,Nat.zero_le _,hi_ (br_)⟩
 case round=>
  obtain⟨i,rfl,rfl,hi,HB⟩:=hrel;clear c0 c1 c2 hlt;have HSr:=hi_ (HS.out.below HB.out);obtain⟨c0,c1,c2,hlt⟩:=cS_ HSr.out.blk
  rcases Nat.lt_or_ge i S.rs.length with hlt2|hge
  ·have hii:(i:Int)<(S.rs.length:Int):=by omega
   have hi0:(0:Int)<=(i:Int):=by omega
   have hro:ac_ bb_ S.B 54 5 wr (.slice ao S.rs.length cap) S.rs:=by have:=HSr.out.rows;rwa [HRv.out]at this
   obtain⟨g,cap',e,_,hgl,_⟩:=a1_ hro (by omega);injection e with e1 e2 e3
   subst e1 e3;have k0:=(ac_.cell av_ hro hlt2 (k:=0) (by omega)).1;have k1:=(ac_.cell av_ hro hlt2 (k:=1) (by omega)).1;have k2:=(ac_.cell av_ hro hlt2 (k:=2) (by omega)).1;have k3:=(ac_.cell av_ hro hlt2 (k:=3) (by omega)).1;have k4:=(ac_.cell av_ hro hlt2 (k:=4) (by omega)).1;have hmem:S.rs[i]∈S.rs:=List.getElem_mem hlt2;obtain⟨a,b,⟨ea1,ea2,eb1,eb2⟩,⟨ha,hb⟩,⟨ka,kb⟩,ht,hc⟩:=HRg.out _ hmem;have hid1:lJ_ (S.rs.map (·.id)) i<S.rs[i].id:=by have:=HRi.out i (by simpa using hlt2);simpa using this
   have hid2:lJ_ (S.rs.map (·.id)) (i+1)=S.rs[i].id:=by rw[hN_ (by simpa using hlt2)];simp
   have hid3:=HRu.out _ hmem;have QCr:=hi_ (fun W (hW:Below wr.heap.size wr W)=>QC.out a b W (HB.out.trans (hW.mono HB.out.size)) ha hb ka kb);have hcr:c3_ m a b=(lcmp m a b,0):=if_neg (fun h=>h ht);rw[hcr]at QCr;generalize lcmp m a b=lc at *;generalize lJ_ (S.rs.map (·.id)) i=li at *;have HNx:=hi_ hid2;generalize S.rs[i]=r at *;obtain⟨rid,rsn,rsi,ren,rei⟩:=r;dsimp only at ea1 ea2 eb1 eb2 hid1 hid2 hid3;unfold bI_ at QCr;rw[<-ea1,<-ea2,<-eb1,<-eb2]at QCr;have j0:wr.cell? ⟨g,i*5,none⟩=some (.int .i64 rid):=k0;have j1:wr.cell? ⟨g,i*5+1,none⟩=some (.int .i64 rsn):=k1;have j2:wr.cell? ⟨g,i*5+2,none⟩=some (.int .i64 rsi):=k2;have j3:wr.cell? ⟨g,i*5+3,none⟩=some (.int .i64 ren):=k3;have j4:wr.cell? ⟨g,i*5+4,none⟩=some (.int .i64 rei):=k4
   have d1:decide (0<lc)=false:=decide_eq_false (by omega);have d2:decide (rid<=li)=false:=decide_eq_false (by omega);have d3:decide (S.last<rid)=false:=decide_eq_false (by omega);clear k0 k1 k2 k3 k4 hmem ea1 ea2 eb1 eb2 ha hb ka kb ht hc hcr hid1 hid2 hid3 hro;have hBa:=(Below.refl wr.heap.size wr).alloc (nl_) (.cells #[.int .i64 rid,.int .i64 rsn,.int .i64 rsi,.int .i64 ren,.int .i64 rei] 54);have HBa:=hi_ hBa;have HXa:=hi_ (Blk.new wr #[.int .i64 rid,.int .i64 rsn,.int .i64 rsi,.int .i64 ren,.int .i64 rei] 54);clear hBa;go_wp2_with fail
   refine(QCr.out _ HBa.out).mono ?_;rintro e w5 ⟨rfl,hb5⟩;have HB5:=hi_ ((HB.out.trans (HBa.out.mono HB.out.size)).trans (hb5.mono (Nat.le_trans HB.out.size HBa.out.size)));have HX5:=hi_ (HXa.out.below hb5);have HS5:=hi_ (HS.out.below HB5.out);clear c0 c1 c2 hlt j0 j1 j2 j3 j4 hgl hb5 QCr;obtain⟨c0,c1,c2,hlt⟩:=cS_ HS5.out.blk;obtain⟨⟨b0,_⟩,_⟩:=cells5 HX5.out;have hbl:=HX5.out.lt;have D2:=lc_ c2 hlt;have DB:=lc_ b0 hbl;go_wp2_with fail
   refine af_ (by kernel_rfl) (by kernel_rfl) ?_;repeat (go_big_quiet_step (fail))
   refine wq_ (fun dq=>?_);have HB6:=bt_ HB5 dq.h;have HX6:=hi_ (HX5.out.below dq.h);clear D2 DB c0 c1 c2 hlt b0 hbl;generalize dq.w=w6 at *;obtain⟨⟨b0,_⟩,_⟩:=cells5 HX6.out;go_wp2_with fail
   go_roundw
   case rel=>exact⟨i+1,by rw[HNx.out],by go_num,by omega,HB6⟩
   case measure=>simp[aN_];omega
  ·have hie:i=S.rs.length:=by omega
   subst hie;have hnot:¬((S.rs.length:Nat):Int)<((S.rs.length:Nat):Int):=by omega
   rw[HIv.out]at c1;go_wp2_with fail
   go_loopw [5,59] (fun v5 v59 wr=>∃i:Nat,v5=.int .i64 (lJ_ (S.its.map (·.id)) i)/\v59=.int .i64 (i:Nat)/\i<=S.its.length/\Hid (Below w.heap.size w wr)) (fun _ v59 _=>S.its.length-(aN_ v59).toNat)
   case atStart=>exact⟨0,rfl,rfl,Nat.zero_le _,HB⟩
   case round=>
    obtain⟨i,rfl,rfl,hi,HB2⟩:=hrel;clear c0 c1 c2 hlt;have HSq:=hi_ (HS.out.below HB2.out);obtain⟨c0,c1,c2,hlt⟩:=cS_ HSq.out.blk
    rcases Nat.lt_or_ge i S.its.length with hlt2|hge2
    ·have hii:(i:Int)<(S.its.length:Int):=by omega
     have hi0:(0:Int)<=(i:Int):=by omega
     have hro:ac_ g7_ S.B 116 4 wr (.slice ai S.its.length capi) S.its:=by have:=HSq.out.itrow;rwa [HIv.out]at this
     obtain⟨g,cap',e,_,hgl,_⟩:=a1_ hro (by omega);injection e with e1 e2 e3
     subst e1 e3;have k0:=(ac_.cell dy_ hro hlt2 (k:=0) (by omega)).1;have k1:=(ac_.cell dy_ hro hlt2 (k:=1) (by omega)).1;have k2:=(ac_.cell dy_ hro hlt2 (k:=2) (by omega)).1;have k3:=(ac_.cell dy_ hro hlt2 (k:=3) (by omega)).1;have hmem:S.its[i]∈S.its:=List.getElem_mem hlt2;obtain⟨a,b,⟨ea1,ea2⟩,⟨ha,hb⟩,ht⟩:=HIt.out _ hmem;have hid1:lJ_ (S.its.map (·.id)) i<S.its[i].id:=by have:=HIi.out i (by simpa using hlt2);simpa using this
     have hid2:lJ_ (S.its.map (·.id)) (i+1)=S.its[i].id:=by rw[hN_ (by simpa using hlt2)];simp
     have hid3:=HIu.out _ hmem;have QKr:=hi_ (fun W (hW:Below wr.heap.size wr W)=>QK.out a b W (HB2.out.trans (hW.mono HB2.out.size)) ha hb);rw[ht]at QKr;generalize lJ_ (S.its.map (·.id)) i=li at *;have HNx:=hi_ hid2;generalize S.its[i]=r at *;obtain⟨rid,rrt,rrf,rbf⟩:=r;dsimp only at ea1 ea2 hid1 hid2 hid3;rw[<-ea1,<-ea2]at QKr;have j0:wr.cell? ⟨g,i*4,none⟩=some (.int .i64 rid):=k0;have j1:wr.cell? ⟨g,i*4+1,none⟩=some (.int .i64 rrt):=k1;have j2:wr.cell? ⟨g,i*4+2,none⟩=some (.int .i64 rrf):=k2;have j3:wr.cell? ⟨g,i*4+3,none⟩=some (.bool rbf):=k3;have d2:decide (rid<=li)=false:=decide_eq_false (by omega);have d3:decide (S.last<rid)=false:=decide_eq_false (by omega);clear k0 k1 k2 k3 hmem ea1 ea2 ha hb ht hid1 hid2 hid3 hro
     have HBa:=hi_ ((Below.refl wr.heap.size wr).alloc (nl_) (.cells #[.int .i64 rid,.int .i64 rrt,.int .i64 rrf,.bool rbf] 116));have HXa:=hi_ (Blk.new wr #[.int .i64 rid,.int .i64 rrt,.int .i64 rrf,.bool rbf] 116);have HSa:=hi_ (HSq.out.below HBa.out);go_upto_region 14 with fail
     generalize wr.alloc (.cells #[.int .i64 rid,.int .i64 rrt,.int .i64 rrf,.bool rbf] 116)=w5 at *;clear c0 c1 c2 hlt j0 j1 j2 j3 hgl;obtain⟨c0,c1,c2,hlt⟩:=cS_ HSa.out.blk;obtain⟨b0,b1,b2⟩:w5.cell? ⟨wr.heap.size,0,none⟩=some (.int .i64 rid)/\w5.cell? ⟨wr.heap.size,1,none⟩=some (.int .i64 rrt)/\w5.cell? ⟨wr.heap.size,2,none⟩=some (.int .i64 rrf):=⟨(ad_ HXa.out).1 0,(ad_ HXa.out).1 1,(ad_ HXa.out).1 2⟩;have hbl:=HXa.out.lt;have D2:=lc_ c2 hlt;have DB:=lc_ b0 hbl;have DC:=lc_ b1 hbl;have DD:=lc_ b2 hbl;refine af_ (by kernel_rfl) (by kernel_rfl) ?_;repeat (go_big_quiet_step ((go_at_call 40;exact Calls.later (QKr.out _ (HBa.out.trans ((Later.h _).mono HBa.out.size))))))
     refine wq_ (fun dq=>?_);have HB6:=hi_ ((HB2.out.trans (HBa.out.mono HB2.out.size)).trans (dq.h.mono (Nat.le_trans HB2.out.size HBa.out.size)));have HX6:=hi_ (HXa.out.below dq.h);clear D2 DB DC DD c0 c1 c2 hlt b0 b1 b2 hbl;generalize dq.w=w6 at *;have b0:=(ad_ HX6.out).1 0;go_wp2_with fail
     go_roundw
     case rel=>exact⟨i+1,by rw[HNx.out],by go_num,by omega,HB6⟩
     case measure=>simp[aN_];omega
    ·have hie:i=S.its.length:=by omega
     subst hie;have hnot2:¬((S.its.length:Nat):Int)<((S.its.length:Nat):Int):=by omega
     go_wp2_with fail
     go_ret
     exact⟨rfl,HB2.out⟩
theorem infoRg:(Tryz.prog.info? 54).map (fun i=>(i.zero,i.size,i.bytes))=some (some (.agg #[.int .i64 0,.int .i64 0,.int .i64 0,.int .i64 0,.int .i64 0]),5,40):=by kernel_rfl
theorem as_.num{w:World}{S:bh_}(h:as_ w S){z:Int}(h0:0<=z)(h1:z<=10000):as_ (w.setCell ⟨S.sb,2,none⟩ (.int .i64 z)) { S with last:=z }:=by
 have n1:=ak_ h.rows h.blk (by decide);have n2:=ak_ h.itrow h.blk (by decide);have h9:=h.blk.set 2 (.int .i64 z);simp only[List.setIfInBounds_toArray,List.set_cons_zero,List.set_cons_succ]at h9;exact⟨h9,au_ h.rows n1 _ _,au_ h.itrow n2 _ _,h.few,⟨h0,h1⟩,h.bb⟩
theorem as_.row{w w':World}{S:bh_}(h:as_ w S){g cap:Nat}{l:List Rg}(f:H.Frame (fun k=>S.rv.ownBlock=some k) w w')(hr:ac_ bb_ S.B 54 5 w' (.slice (some ⟨g,0,none⟩) l.length cap) l)(hl:l.length<=10000) :
  as_ (w'.setCell ⟨S.sb,0,none⟩ (.slice (some ⟨g,0,none⟩) l.length cap)) { S with rv:=.slice (some ⟨g,0,none⟩) l.length cap,rs:=l }:=by
 have hn:=ak_ h.rows h.blk (by decide);have hb:Blk S.sb #[S.rv,S.iv,.int .i64 S.last] 50 w':=h.blk.frame f hn;have hi:ac_ g7_ S.B 116 4 w' S.iv S.its:=ah_ h.itrow f (fun g hg hs=>aU_ h.itrow h.rows (by decide) hg hs);have n1:=ak_ hr hb (by decide);have n2:=ak_ hi hb (by decide);have h9:=hb.set 0 (.slice (some ⟨g,0,none⟩) l.length cap);simp only[List.setIfInBounds_toArray,List.set_cons_zero,List.set_cons_succ]at h9;exact⟨h9,au_ hr n1 _ _,au_ hi n2 _ _,⟨hl,h.few.2⟩,h.lastb,h.bb⟩
theorem h7_(T:am_)(m:aa_)(pos:Nat->Nat)(S:bh_)(z k:Int)(w:World)(hT:aj_ w T m pos)(hS:as_ w S)(hm:gm_ m)(hp:n9_ T m pos z k 0)(hr:S.rs.length<10000)(hl:S.last<10000) :
  Calls Tryz.prog 17 #[.pointer (some ⟨S.sb,0,none⟩),.pointer (some ⟨T.tb,0,none⟩),bI_ z k] w fun e w'=>∃v,e=.returned (.tuple #[.int .i64 (S.last+1),.int .i64 0])/\H.Frame S.foot w w'/\as_ w' { S with rv:=v,rs:=S.rs++[⟨S.last+1,z,k,z,k⟩],last:=S.last+1 }/\(∀g,v.ownBlock=some g->S.rv.ownBlock=some g\/w.heap.size<=g):=by
 have hb1:=((Below.refl w.heap.size w).alloc (nl_) (.cells #[.int .i64 z,.int .i64 k] 31));have hx:=Blk.new w #[.int .i64 z,.int .i64 k] 31;obtain⟨b0,b1⟩:=a3_ hx;have HB1:=hi_ hb1;have HX:=hi_ hx;have HS:=hi_ hS;have Q:=hi_ (jN_ T m pos z k 0 _ (hT.below hb1) hm hp);have wl:IntKind.i64.wrap (S.last+1)=S.last+1:=IntWalk.i64_in _ (by have:=hS.lastb;omega);have hlb:=hS.lastb;have hsb:=hS.blk.lt;obtain⟨i0,hi0,hz0,hz1,hz2⟩:=info_parts infoRg;unfold bI_ at *;clear hT hS hm hp hx hb1
 go_enter Tryz.func17,Tryz.ntmps17
 go_wp2_with fail
 refine Q.out.mono ?_;rintro e w2 ⟨rfl,hb2⟩;have HB2:=bt_ HB1 hb2;have HX2:=hi_ (HX.out.below hb2);have HS2:=hi_ (HS.out.below HB2.out);clear hb2 Q b0 b1;obtain⟨c0,c1,c2,hlt⟩:=cS_ HS2.out.blk;have hf2:=(ad_ HS2.out.blk).2 2 (by show 2<3;omega);go_upto_region 5 with fail
 have HS3:=hi_ (HS2.out.num (z:=S.last+1) (by omega) (by omega));have hnx:w.heap.size≠S.sb:=by omega
 have HX3:=hi_ (HX2.out.far hnx 2 (.int .i64 (S.last+1)));have HF3:=hi_ (Frame.set (S:=S.foot) (Frame.of HB2.out) (g:=S.sb) (Or.inl (Or.inl rfl)) 2 (.int .i64 (S.last+1)));generalize w2.setCell ⟨S.sb,2,none⟩ (.int .i64 (S.last+1))=w3 at *;clear c0 c1 c2 hlt hf2 HS2 HX2 HB2;have hcs:∀W,as_ W { S with last:=S.last+1 }->Blk w.heap.size #[.int .i64 z,.int .i64 k] 31 W->(W.cell? ⟨S.sb,0,none⟩=some S.rv/\W.cell? ⟨S.sb,2,none⟩=some (.int .i64 (S.last+1))/\W.cell? ⟨w.heap.size,0,none⟩=some (.int .i64 z)/\W.cell? ⟨w.heap.size,1,none⟩=some (.int .i64 k)):=fun W h1 h2=>by
  obtain⟨c0,c1,c2,_⟩:=cS_ h1.blk;obtain⟨b0,b1⟩:=a3_ h2;exact⟨c0,c2,b0,b1⟩
 have HCs:=hi_ hcs;have HFr:=hi_ (show S.B<=S.sb from HS.out.bb);have HFw:=hi_ (show S.rs.length<=10000 from HS.out.few.1);obtain⟨ao,cap0,hrv⟩:=ac_.slice HS3.out.rows;have hrv:S.rv=.slice ao S.rs.length cap0:=hrv;have HRv:=hi_ hrv;have hl3:S.sb<w3.heap.size:=HS3.out.blk.lt;clear hcs;refine b1_ (fun W=>W.cell? ⟨S.sb,0,none⟩=some S.rv/\W.cell? ⟨S.sb,2,none⟩=some (.int .i64 (S.last+1))/\W.cell? ⟨w.heap.size,0,none⟩=some (.int .i64 z)/\W.cell? ⟨w.heap.size,1,none⟩=some (.int .i64 k)) 14 [(0,false),(1,false),(2,false),(3,false),(4,false),(5,false),(6,false),(7,false),(8,false),(9,false),(10,false),(11,false),(12,true),(13,true)] (by kernel_rfl) (by kernel_rfl) (HCs.out _ (HS3.out.below (Below.refl w3.heap.size w3).drew) (HX3.out.below (Below.refl w3.heap.size w3).drew)) ?_;iterate 12 (
  refine c1_ _ ?_ rfl (fun _ _ _ h=>h) (by rfl) ?_ ?_
  rotate_left
  focus (
   intro W' hS';obtain⟨s0,s1,s2,s3⟩:=hS';go_simp
   first|done|with_reducible rfl)
  simp only[Act.put,List.setIfInBounds_toArray,List.set_cons_zero,List.set_cons_succ])
 change cc_ _ _ _ _ _ _ _ (World.drew w3);obtain⟨wd,hwd⟩:∃wd,wd=World.drew w3:=⟨_,rfl⟩;have HDr:Hid (Below w3.heap.size w3 wd):=hi_ (by rw[hwd];exact(Below.refl w3.heap.size w3).drew);have HSz:Hid (wd.heap.size=w3.heap.size):=hi_ (by rw[hwd];rfl);rw[<-hwd];clear hwd;have HSd:=hi_ (HS3.out.below HDr.out);have HXd:=hi_ (HX3.out.below HDr.out);have HDa:=hi_ ((Below.refl wd.heap.size wd).alloc (nl_) (.cells #[.int .i64 (S.last+1),.int .i64 z,.int .i64 k,.int .i64 z,.int .i64 k] 54));have hro:wd.ownsRow S.B 54 5 (.slice ao S.rs.length cap0) S.rs.length (S.rs.flatMap bb_):=by
  have h1:=HSd.out.rows;unfold ac_ at h1;rw[<-HRv.out];exact h1
 have HRo:=hi_ hro;clear hro;refine cA_ _ rfl (fun K hK=>?_);go_simp
 refine hK _ _ (HCs.out _ (HSd.out.below HDa.out) (HXd.out.below HDa.out)) ?_;clear hK K;try simp only[Act.put,List.setIfInBounds_toArray,List.set_cons_zero,List.set_cons_succ]
 rw[hrv];refine cA_ _ rfl (fun K hK=>?_);refine step_append_lies _ (by rfl) _ _ 47 (by rfl) S.B 54 i0 _ 5 40 Tryz.underlying47 hi0 hz0 hz1 hz2 rfl (by decide) (.slice ao S.rs.length cap0) S.rs.length (S.rs.flatMap bb_) (by rfl) (World.ownsRow.alloc HRo.out _) ⟨wd.heap.size,0,none⟩ 1 1 [.int .i64 (S.last+1),.int .i64 z,.int .i64 k,.int .i64 z,.int .i64 k] (by rfl) (by rfl) (World.news_of_block (cs:=#[.int .i64 (S.last+1),.int .i64 z,.int .i64 k,.int .i64 z,.int .i64 k]) (t:=54) (fr:=(0,0)) (heap_alloc_new wd _)) (by simp[Value.oneCell']) (by omega) (by unfold maxLen;omega) (by omega) (by simp;have:=HFr.out;have:=HSz.out;omega) (wd.heap.size+1) (by simp) ?_;intro g cap w5 hown hgrow hat hglt
 have hF5:H.Frame (fun k=>S.rv.ownBlock=some k) wd w5:=H.Frame.grown (S:=fun k=>S.rv.ownBlock=some k) (Frame.alloc (H.Frame.refl _ wd) _) hgrow (fun k hk=>Or.inl (by rw[HRv.out];exact hk));have hbl:∀k,S.rv.ownBlock=some k->S.foot k:=fun k hk=>Or.inr (Or.inl hk);have hrow:ac_ bb_ S.B 54 5 w5 (.slice (some ⟨g,0,none⟩) (S.rs++[(⟨S.last+1,z,k,z,k⟩:Rg)]).length cap) (S.rs++[(⟨S.last+1,z,k,z,k⟩:Rg)]):=by
  unfold ac_;rw[List.length_append,List.flatMap_append];exact hown
 have HM:=hi_ (HSd.out.row (g:=g) (cap:=cap) (l:=S.rs++[(⟨S.last+1,z,k,z,k⟩:Rg)]) hF5 hrow (by rw[List.length_append];show S.rs.length+1<=10000;omega));have hn1:S.rv.ownBlock≠some S.sb:=ak_ HS3.out.rows HS3.out.blk (by decide);have hn2:S.rv.ownBlock≠some w.heap.size:=ak_ HS3.out.rows HX3.out (by decide);have hb5:Blk S.sb #[S.rv,S.iv,.int .i64 (S.last+1)] 50 w5:=HSd.out.blk.frame hF5 hn1;have hx5:Blk w.heap.size #[.int .i64 z,.int .i64 k] 31 w5:=HXd.out.frame hF5 hn2;have HF6:=hi_ (Frame.set (S:=S.foot) ((HF3.out.below_ HDr.out).trans hF5 (fun b hb=>Or.inl (hbl b hb))) (g:=S.sb) (Or.inl (Or.inl rfl)) 0 (.slice (some ⟨g,0,none⟩) (S.rs.length+1) cap))
 have HGo:Hid (S.rv.ownBlock=some g\/w.heap.size<=g):=hi_ (hat.imp (fun e=>by rw[HRv.out];exact e) (fun e=>by have h1:=HF3.out.size;have h2:=HSz.out;omega));obtain⟨c0,c1,c2,hlt⟩:=cS_ hb5;have hfz:=(ad_ hb5).2 0 (by show 0<3;omega);obtain⟨b0,b1⟩:=a3_ hx5;rw[HRv.out]at c0;refine hK _ _ ⟨c0,c2,b0,b1⟩ ?_;have HM2:Hid (as_ (w5.setCell ⟨S.sb,0,none⟩ (.slice (some ⟨g,0,none⟩) (S.rs.length+1) cap)) { S with rv:=.slice (some ⟨g,0,none⟩) (S.rs.length+1) cap,rs:=S.rs++[(⟨S.last+1,z,k,z,k⟩:Rg)],last:=S.last+1 }):=hi_ (by
  have h1:=HM.out;rw[List.length_append]at h1;exact h1)
 clear hK K hown hgrow hat hF5 hrow HM hb5 hx5 hbl hn1 hn2 HRo HDa HSd HXd;show wpList _ _ _ _ _ _;simp only[List.drop_succ_cons,List.drop_zero];go_wp2_with fail
 refine bodyPost_ret (v:=.tuple #[.int .i64 (S.last+1),.int .i64 0]) (by simp[results,Tryz.results17,go_sem]) rfl ⟨rfl,HF6.out,.slice (some ⟨g,0,none⟩) (S.rs.length+1) cap,HM2.out,fun g' hg'=>?_⟩;have e:g=g':=by simpa[Value.ownBlock]using hg'
 have h1:=HGo.out;rw[hrv]at h1;rw[<-e];exact h1
def f1_(l:List Rg)(id:Int):Option Nat:=l.findIdx? (fun r=>r.id==id)
def bh_.ptr(S:bh_)(id:Int):Option Addr:=match S.rv.ownBlock,f1_ S.rs id with
 |some g,some i=>some ⟨g,i*5,none⟩
 |_,_=>none
theorem jC_{l:List Rg}{id:Int}{i:Nat}(hi:i<l.length)(h1:l[i].id=id)(h2:∀j (hj:j<i),l[j].id≠id):f1_ l id=some i:=by
 unfold f1_;exact List.findIdx?_eq_some_iff_getElem.2 ⟨hi,by simpa using h1,fun j hj=>by simpa using h2 j hj⟩
theorem kk_{l:List Rg}{id:Int}(h:∀j (hj:j<l.length),l[j].id≠id):f1_ l id=none:=by
 unfold f1_;rw[List.findIdx?_eq_none_iff];intro x hx;obtain⟨j,hj,rfl⟩:=List.getElem_of_mem hx;simpa using h j hj
theorem g3_{S:bh_}{id:Int}{i g n cap:Nat}(hv:S.rv=.slice (some ⟨g,0,none⟩) n cap)(h:f1_ S.rs id=some i):S.ptr id=some ⟨g,i*5,none⟩:=by
 unfold bh_.ptr;rw[h,hv];rfl
theorem ptr_no{S:bh_}{id:Int}(h:f1_ S.rs id=none):S.ptr id=none:=by
 unfold bh_.ptr;rw[h]
 cases S.rv.ownBlock<;>rfl
theorem find_(S:bh_)(id:Int)(w:World)(h:as_ w S) :
  Calls Tryz.prog 48 #[.pointer (some ⟨S.sb,0,none⟩),.int .i64 id] w fun e w'=>e=.returned (.pointer (S.ptr id))/\w=w':=by
 have HS:=hi_ h;have hfw:=h.few.1;obtain⟨ao,cap,hrv⟩:=ac_.slice h.rows;have HRv:=hi_ hrv;obtain⟨c0,c1,c2,hlt⟩:=cS_ h.blk;rw[hrv]at c0;obtain⟨R,hR⟩:∃R,R=S.ptr id:=⟨_,rfl⟩;have HR:=hi_ hR;rw[<-hR];clear h hrv hR
 go_enter Tryz.func48,Tryz.ntmps48
 go_wp2_with fail
 go_loopw [11] (fun v11 wr=>∃i:Nat,v11=.int .i64 (i:Nat)/\i<=S.rs.length/\wr=w/\Hid (∀j (hj:j<S.rs.length),j<i->S.rs[j].id≠id))
  (fun v11 _=>S.rs.length-(Go.RowKit.intOf v11).toNat)
 case atStart=>exact⟨0,rfl,Nat.zero_le _,rfl,hi_ (fun j _ hj=>by omega)⟩
 case round=>
  obtain⟨i,rfl,hi,rfl,HI⟩:=hrel
  rcases Nat.lt_or_ge i S.rs.length with hlt2|hge
  ·have hii:(i:Int)<(S.rs.length:Int):=by omega
   have hi0:(0:Int)<=(i:Int):=by omega
   have hro:ac_ bb_ S.B 54 5 wr (.slice ao S.rs.length cap) S.rs:=by have:=HS.out.rows;rwa [HRv.out]at this
   obtain⟨g,cap',e,_,hgl,_⟩:=a1_ hro (by omega);injection e with e1 e2 e3
   subst e1 e3;have k0:=(ac_.cell av_ hro hlt2 (k:=0) (by omega)).1;have j0:wr.cell? ⟨g,i*5,none⟩=some (.int .i64 S.rs[i].id):=k0
   by_cases hid:S.rs[i].id=id
   ·have HF:Hid (R=some ⟨g,i*5,none⟩):=hi_ (by rw[HR.out];exact g3_ HRv.out (jC_ hlt2 hid (fun j hj=>HI.out j (by omega) hj)))
    have hb:(S.rs[i].id==id)=true:=by rw[hid];exact beq_self_eq_true _
    generalize S.rs[i].id=z at *;clear k0 hro hid;go_wp2_with fail
    exact bodyPost_ret (v:=.pointer (some ⟨g,i*5,none⟩)) (by simp[results,Tryz.results48,go_sem]) rfl ⟨by rw[HF.out],rfl⟩
   ·have HNx:Hid (∀j (hj:j<S.rs.length),j<i+1->S.rs[j].id≠id):=hi_ (fun j hj hj2=>by
     rcases Nat.lt_or_ge j i with h1|h1
     ·exact HI.out j hj h1
     ·have:j=i:=by omega
      subst this;exact hid)
    have hb:(S.rs[i].id==id)=false:=bn_ hid;generalize S.rs[i].id=z at *;clear k0 hro;go_wp2_with fail
    go_roundw
    case rel=>exact⟨i+1,by go_num,by omega,trivial,HNx⟩
    case measure=>simp[Go.RowKit.intOf];omega
  ·have hie:i=S.rs.length:=by omega
   have HF:Hid (R=none):=hi_ (by rw[HR.out];exact ptr_no (kk_ (fun j hj=>HI.out j hj (by omega))));subst hie;have hnot:¬((S.rs.length:Nat):Int)<((S.rs.length:Nat):Int):=by omega
   go_wp2_with fail
   exact bodyPost_ret (v:=.pointer none) (by simp[results,Tryz.results48,go_sem]) rfl ⟨by rw[HF.out],rfl⟩
end A
end
section
open Go.RowKit Go.Shelf
namespace A
open H G
section
variable {W0:World} {fn:FuncId} {ts:Array Value} {l D:Nat} {acc:Nat->Bytes} {T:am_} {m:aa_} {pos:Nat->Nat}
end
end A
end
section
open Go.RowKit Go.Shelf Go.Sort
namespace A
open H G R
end A
end
section
open Go.RowKit Go.Sort
namespace A
open H G R
def mN_(r:Rg)(z k:Int):Rg:={ r with sn:=z,si:=k }
theorem endsEnd(g o:Nat)(w:World):Calls Tryz.prog 47 #[.pointer (some ⟨g,o,none⟩)] w fun e w'=>e=.returned (.tuple #[.pointer (some ⟨g,o+3,none⟩),.pointer (some ⟨g,o+1,none⟩)])/\Below w.heap.size w w':=by
 have HB:=hi_ (Below.refl w.heap.size w)
 go_enter Tryz.func47,Tryz.ntmps47
 go_upto_region 1 with fail
 refine af_ (by kernel_rfl) (by kernel_rfl) ?_;repeat (go_big_quiet_step (fail))
 refine wq_ (fun dq=>?_);have HD:=hi_ dq.h;generalize dq.w=w2 at *;go_wp2_with fail
 refine bodyPost_ret (v:=.tuple #[.pointer (some ⟨g,o+3,none⟩),.pointer (some ⟨g,o+1,none⟩)]) (by simp[results,Tryz.results47,go_sem]) rfl ⟨rfl,HD.out⟩
def ci_(r:Rg)(z k:Int):Rg:={ r with en:=z,ei:=k }
def bJ_(m:aa_)(a b:Nat×Nat)(z k:Int)(r:Rg):Rg:=if (c3_ m a b).2≠0\/(c3_ m a b).1=(-1) then⟨r.id,z,k,z,k⟩else ci_ r z k
theorem kZ_(T:am_)(m:aa_)(pos:Nat->Nat)(S:bh_)(id:Int)(i:Nat)(a b:Nat×Nat)(w:World)(hT:aj_ w T m pos)(hS:as_ w S)(hm:gm_ m)(hfi:f1_ S.rs id=some i)(hi:i<S.rs.length)
  (ha:has m a.1=true) (ka:a.2<=G.sizeOf m a.1) (kA:a.2<=1000000) (hb:has m b.1=true) (kb:b.2<=G.sizeOf m b.1) (kB:b.2<=1000000) (hbz:S.rs[i].sn=hd T pos b.1) (hbk:S.rs[i].si=(b.2:Nat)) :
  Calls Tryz.prog 45 #[.pointer (some ⟨S.sb,0,none⟩),.pointer (some ⟨T.tb,0,none⟩),.int .i64 id,bI_ (hd T pos a.1) (a.2:Nat),.func (.func 47) #[] #[],.int .i64 (-1)] w fun e w'=>e=.returned (.int .i64 0)/\H.Frame S.foot w w' ∧
   as_ w' { S with rs:=S.rs.modify i (bJ_ m a b (hd T pos a.1) (a.2:Nat)) }:=by
 have hb1:=((Below.refl w.heap.size w).alloc (nl_) (.cells #[.int .i64 (hd T pos a.1),.int .i64 a.2] 31));have hx:=Blk.new w #[.int .i64 (hd T pos a.1),.int .i64 a.2] 31;have HB1:=hi_ hb1;have HX1:=hi_ hx;have HT1:=hi_ (hT.below hb1);have HS1:=hi_ (hS.below hb1);have HNx:Hid (¬S.foot w.heap.size):=hi_ (fun h=>Nat.lt_irrefl _ (hS.foot_lt h));have hp:n9_ T m pos (hd T pos a.1) (a.2:Nat) 0:=Or.inl ⟨a.1,ha,rfl,by rw[if_pos (eU_ ka)]⟩;have QC:=hi_ (fun W (hW:aj_ W T m pos)=>jN_ T m pos _ _ _ W hW hm hp);have QL:=hi_ (fun W (hW:aj_ W T m pos)=>ju_ T m pos a b W hW hm ha hb (eU_ ka) (eU_ kb) kA kB);obtain⟨ao,cap,hrv⟩:=ac_.slice hS.rows;obtain⟨g,cap',e,_,hgl,_⟩:=a1_ hS.rows (by omega);rw[hrv]at e;injection e with e1 e2 e3
 subst e1 e3;have hptr:=g3_ hrv hfi;have QF:=hi_ (find_ S id _ HS1.out);rw[hptr]at QF;have QE:=hi_ (fun W=>endsEnd g (i*5) W);have HRv:=hi_ hrv;have HOb:Hid (S.rv.ownBlock=some g):=hi_ (by rw[hrv];rfl);have HBz:=hi_ hbz;have HBk:=hi_ hbk;have HMa:Hid (((c3_ m a b).2≠0\/(c3_ m a b).1=(-1))->bJ_ m a b (hd T pos a.1) (a.2:Nat)=fun r=>⟨r.id,hd T pos a.1,(a.2:Nat),hd T pos a.1,(a.2:Nat)⟩):=hi_ (fun h=>funext fun r=>if_pos h);have HMb:Hid ((¬((c3_ m a b).2≠0\/(c3_ m a b).1=(-1)))->bJ_ m a b (hd T pos a.1) (a.2:Nat)=fun r=>ci_ r (hd T pos a.1) (a.2:Nat)):=hi_ (fun h=>funext fun r=>if_neg h);generalize bJ_ m a b (hd T pos a.1) (a.2:Nat)=MV at *;generalize c3_ m a b=res at *;generalize hd T pos a.1=za at *;generalize ((a.2:Nat):Int)=ak at *
 generalize hd T pos b.1=zb at *;generalize ((b.2:Nat):Int)=bk at *;obtain⟨rc,re⟩:=res;dsimp only at QL HMa HMb;unfold bI_ at *;clear hT hS hm hp hfi ha ka kA hb kb kB hbz hbk hrv hx hb1 hptr
 go_enter Tryz.func45,Tryz.ntmps45
 go_wp2_with fail
 generalize w.alloc (.cells #[.int .i64 za,.int .i64 ak] 31)=w1 at *;refine QF.out.mono ?_;rintro e w1' ⟨rfl,rfl⟩;obtain⟨b0,b1⟩:=a3_ HX1.out;go_wp2_with fail
 refine(QC.out _ HT1.out).mono ?_;rintro e w2 ⟨rfl,hb2⟩;have HB2:=bt_ HB1 hb2;have HX2:=hi_ (HX1.out.below hb2);have HT2:=hi_ (HT1.out.below hb2);have HS2:=hi_ (HS1.out.below hb2);clear hb2 QF b0 b1 HX1 HT1 HS1;go_wp2_with fail
 refine(QE.out _).mono ?_;rintro e w3 ⟨rfl,hb3⟩;have HB3:=bt_ HB2 hb3;have HX3:=hi_ (HX2.out.below hb3);have HT3:=hi_ (HT2.out.below hb3);have HS3:=hi_ (HS2.out.below hb3);clear hb3 QE HX2 HT2 HS2;obtain⟨b0,b1⟩:=a3_ HX3.out;have hro:ac_ bb_ S.B 54 5 w3 (.slice (some ⟨g,0,none⟩) S.rs.length cap) S.rs:=by have:=HS3.out.rows;rwa [HRv.out]at this
 have hg3:=(ae_ hro).1;have f1:=(ac_.cell av_ hro hi (k:=3) (by omega)).2;have f2:w3.frozen? ⟨g,i*5+3+1,none⟩=false:=(ac_.cell av_ hro hi (k:=4) (by omega)).2;have c1:w3.cell? ⟨g,i*5+3,none⟩=some (.int .i64 S.rs[i].en):=(ac_.cell av_ hro hi (k:=3) (by omega)).1;have c2:w3.cell? ⟨g,i*5+3+1,none⟩=some (.int .i64 S.rs[i].ei):=(ac_.cell av_ hro hi (k:=4) (by omega)).1;clear hro;go_upto_region 9 with fail
 have HS4:Hid (as_ ((w3.setCell ⟨g,i*5+3,none⟩ (.int .i64 za)).setCell ⟨g,i*5+3+1,none⟩ (.int .i64 ak)) { S with rs:=S.rs.modify i (fun r=>ci_ r za ak) }):=hi_ (by
  have h1:=HS3.out.put HRv.out hi (k:=3) (by omega) (.int .i64 za) (fun r=>{ r with en:=za }) rfl;have h2:=h1.put (by show S.rv=.slice _ (S.rs.modify i _).length cap;rw[List.length_modify];exact HRv.out) (by show i<(S.rs.modify i _).length;rw[List.length_modify];exact hi) (k:=4) (by omega) (.int .i64 ak) (fun r=>{ r with ei:=ak }) rfl;have e:(S.rs.modify i (fun r=>{ r with en:=za })).modify i (fun r=>{ r with ei:=ak })=S.rs.modify i (fun r=>ci_ r za ak):=by
   rw[List.modify_modify_eq];rfl
  rw[show({ S with rs:=S.rs.modify i (fun r=>ci_ r za ak) }:bh_)={ S with rs:=(S.rs.modify i (fun r=>{ r with en:=za })).modify i (fun r=>{ r with ei:=ak }) } by rw[e]];exact h2)
 have hF34:=Frame.set (S:=S.foot) (Frame.set (S:=S.foot) (H.Frame.refl S.foot w3) (g:=g) (Or.inl (Or.inr (Or.inl HOb.out))) (i*5+3) (.int .i64 za)) (g:=g) (Or.inl (Or.inr (Or.inl HOb.out))) (i*5+3+1) (.int .i64 ak);have HX4:=hi_ (HX3.out.frame hF34 HNx.out);have HT4:=hi_ (HT3.out.frame HS3.out hF34);have HF4:Hid (H.Frame S.foot w _):=hi_ ((Frame.of HB3.out).trans hF34 (fun b hb=>Or.inl hb));clear hF34 b0 b1 hg3 f1 f2 c1 c2;generalize (w3.setCell ⟨g,i*5+3,none⟩ (.int .i64 za)).setCell ⟨g,i*5+3+1,none⟩ (.int .i64 ak)=w4 at *;have hi4:i<(S.rs.modify i (fun r=>ci_ r za ak)).length:=by rw[List.length_modify];exact hi
 have hat:(S.rs.modify i (fun r=>ci_ r za ak))[i]=ci_ S.rs[i] za ak:=List.getElem_modify_eq ..;have HAt:=hi_ hat;have hro:ac_ bb_ S.B 54 5 w4 (.slice (some ⟨g,0,none⟩) (S.rs.modify i (fun r=>ci_ r za ak)).length cap) (S.rs.modify i (fun r=>ci_ r za ak)):=by have h1:ac_ bb_ S.B 54 5 w4 S.rv _:=HS4.out.rows;rw[HRv.out]at h1;rw[List.length_modify];exact h1
 have c3:w4.cell? ⟨g,i*5+1,none⟩=some (.int .i64 zb):=by rw[(ac_.cell av_ hro hi4 (k:=1) (by omega)).1,hat];exact congrArg (fun z=>some (Value.int .i64 z)) HBz.out
 have c4:w4.cell? ⟨g,i*5+1+1,none⟩=some (.int .i64 bk):=by rw[show i*5+1+1=i*5+2 from rfl,(ac_.cell av_ hro hi4 (k:=2) (by omega)).1,hat];exact congrArg (fun z=>some (Value.int .i64 z)) HBk.out
 have hg4:=(ae_ hro).1;obtain⟨b0,b1⟩:=a3_ HX4.out;have hbl:=HX4.out.lt;have D0:=lc_ b0 hbl;have D1:=lc_ b1 hbl;have D2:=lc_ c3 hg4;have D3:=lc_ c4 hg4;clear hat hro;refine af_ (by kernel_rfl) (by kernel_rfl) ?_;repeat (go_big_quiet_step ((go_at_call 13;exact Calls.later (QL.out _ (HT4.out.below (Later.h _))))))
 refine wq_ (fun dq=>?_);have HX5:=hi_ (HX4.out.below dq.h);have HS5:=hi_ (HS4.out.below dq.h);have HF5:=hi_ (HF4.out.below_ dq.h);clear D0 D1 D2 D3 b0 b1 c3 c4 hbl hg4 HX4 HS4 HT4 HF4;generalize dq.w=w5 at *;clear dq;have hi5:i<(S.rs.modify i (fun r=>ci_ r za ak)).length:=hi4;have HRo5:Hid (ac_ bb_ S.B 54 5 w5 (.slice (some ⟨g,0,none⟩) (S.rs.modify i (fun r=>ci_ r za ak)).length cap) (S.rs.modify i (fun r=>ci_ r za ak))):=hi_ (by have h1:ac_ bb_ S.B 54 5 w5 S.rv _:=HS5.out.rows;rw[HRv.out]at h1;rw[List.length_modify];exact h1);obtain⟨b0,b1⟩:=a3_ HX5.out
 by_cases hre:re=0
 ·have e1:(re==0)=true:=by rw[hre];rfl
  have e2:(re != 0)=false:=by rw[hre];rfl
  by_cases hrc:rc=(-1)
  ·have e3:(rc==(-1))=true:=by rw[hrc];rfl
   have HMa:=hi_ (HMa.out (Or.inr hrc));have c3:w5.cell? ⟨g,i*5+1,none⟩=some (.int .i64 zb):=by rw[(ac_.cell av_ HRo5.out hi5 (k:=1) (by omega)).1,HAt.out];exact congrArg (fun z=>some (Value.int .i64 z)) HBz.out
   have c4:w5.cell? ⟨g,i*5+1+1,none⟩=some (.int .i64 bk):=by rw[show i*5+1+1=i*5+2 from rfl,(ac_.cell av_ HRo5.out hi5 (k:=2) (by omega)).1,HAt.out];exact congrArg (fun z=>some (Value.int .i64 z)) HBk.out
   have f3:w5.frozen? ⟨g,i*5+1,none⟩=false:=(ac_.cell av_ HRo5.out hi5 (k:=1) (by omega)).2;have f4:w5.frozen? ⟨g,i*5+1+1,none⟩=false:=(ac_.cell av_ HRo5.out hi5 (k:=2) (by omega)).2;have hg5:=(ae_ HRo5.out).1;have HS6:Hid (as_ ((w5.setCell ⟨g,i*5+1,none⟩ (.int .i64 za)).setCell ⟨g,i*5+1+1,none⟩ (.int .i64 ak)) { S with rs:=S.rs.modify i MV }):=hi_ (by
    have h1:=HS5.out.put (by show S.rv=.slice _ (S.rs.modify i _).length cap;rw[List.length_modify];exact HRv.out) hi5 (k:=1) (by omega) (.int .i64 za) (fun r=>{ r with sn:=za }) rfl;have h2:=h1.put (by show S.rv=.slice _ ((S.rs.modify i _).modify i _).length cap;rw[List.length_modify,List.length_modify];exact HRv.out) (by show i<((S.rs.modify i _).modify i _).length;rw[List.length_modify];exact hi5) (k:=2) (by omega) (.int .i64 ak) (fun r=>{ r with si:=ak }) rfl;have e:((S.rs.modify i (fun r=>ci_ r za ak)).modify i (fun r=>{ r with sn:=za })).modify i (fun r=>{ r with si:=ak })=S.rs.modify i MV:=by
     rw[List.modify_modify_eq,List.modify_modify_eq,HMa.out];rfl
    rw[show({ S with rs:=S.rs.modify i MV }:bh_)={ S with rs:=((S.rs.modify i (fun r=>ci_ r za ak)).modify i (fun r=>{ r with sn:=za })).modify i (fun r=>{ r with si:=ak }) } by rw[e]];exact h2)
   have HF6:=hi_ (Frame.set (S:=S.foot) (Frame.set (S:=S.foot) HF5.out (g:=g) (Or.inl (Or.inr (Or.inl HOb.out))) (i*5+1) (.int .i64 za)) (g:=g) (Or.inl (Or.inr (Or.inl HOb.out))) (i*5+1+1) (.int .i64 ak));go_wp2_with fail
   exact bodyPost_ret (v:=.int .i64 0) (by simp[results,Tryz.results45,go_sem]) rfl ⟨rfl,HF6.out,HS6.out⟩
  ·have e3:(rc==(-1))=false:=bn_ hrc
   have HMc:=hi_ (HMb.out (fun h=>h.elim (fun h=>h hre) hrc));have HS6:Hid (as_ w5 { S with rs:=S.rs.modify i MV }):=hi_ (by rw[HMc.out];exact HS5.out);clear hre;go_wp2_with fail
   exact bodyPost_ret (v:=.int .i64 0) (by simp[results,Tryz.results45,go_sem]) rfl ⟨rfl,HF5.out,HS6.out⟩
 ·have e1:(re==0)=false:=bn_ hre
  have e2:(re != 0)=true:=bne_iff_ne.2 hre;have HMa:=hi_ (HMa.out (Or.inl hre));have c3:w5.cell? ⟨g,i*5+1,none⟩=some (.int .i64 zb):=by rw[(ac_.cell av_ HRo5.out hi5 (k:=1) (by omega)).1,HAt.out];exact congrArg (fun z=>some (Value.int .i64 z)) HBz.out
  have c4:w5.cell? ⟨g,i*5+1+1,none⟩=some (.int .i64 bk):=by rw[show i*5+1+1=i*5+2 from rfl,(ac_.cell av_ HRo5.out hi5 (k:=2) (by omega)).1,HAt.out];exact congrArg (fun z=>some (Value.int .i64 z)) HBk.out
  have f3:w5.frozen? ⟨g,i*5+1,none⟩=false:=(ac_.cell av_ HRo5.out hi5 (k:=1) (by omega)).2;have f4:w5.frozen? ⟨g,i*5+1+1,none⟩=false:=(ac_.cell av_ HRo5.out hi5 (k:=2) (by omega)).2;have hg5:=(ae_ HRo5.out).1;have HS6:Hid (as_ ((w5.setCell ⟨g,i*5+1,none⟩ (.int .i64 za)).setCell ⟨g,i*5+1+1,none⟩ (.int .i64 ak)) { S with rs:=S.rs.modify i MV }):=hi_ (by
   have h1:=HS5.out.put (by show S.rv=.slice _ (S.rs.modify i _).length cap;rw[List.length_modify];exact HRv.out) hi5 (k:=1) (by omega) (.int .i64 za) (fun r=>{ r with sn:=za }) rfl;have h2:=h1.put (by show S.rv=.slice _ ((S.rs.modify i _).modify i _).length cap;rw[List.length_modify,List.length_modify];exact HRv.out) (by show i<((S.rs.modify i _).modify i _).length;rw[List.length_modify];exact hi5) (k:=2) (by omega) (.int .i64 ak) (fun r=>{ r with si:=ak }) rfl;have e:((S.rs.modify i (fun r=>ci_ r za ak)).modify i (fun r=>{ r with sn:=za })).modify i (fun r=>{ r with si:=ak })=S.rs.modify i MV:=by
    rw[List.modify_modify_eq,List.modify_modify_eq,HMa.out];rfl
   rw[show({ S with rs:=S.rs.modify i MV }:bh_)={ S with rs:=((S.rs.modify i (fun r=>ci_ r za ak)).modify i (fun r=>{ r with sn:=za })).modify i (fun r=>{ r with si:=ak }) } by rw[e]];exact h2)
  have HF6:=hi_ (Frame.set (S:=S.foot) (Frame.set (S:=S.foot) HF5.out (g:=g) (Or.inl (Or.inr (Or.inl HOb.out))) (i*5+1) (.int .i64 za)) (g:=g) (Or.inl (Or.inr (Or.inl HOb.out))) (i*5+1+1) (.int .i64 ak));go_wp2_with fail
  exact bodyPost_ret (v:=.int .i64 0) (by simp[results,Tryz.results45,go_sem]) rfl ⟨rfl,HF6.out,HS6.out⟩
end A
end
section
open Go.RowKit Go.Shelf
attribute [local go_sem] Oper.semAt_some
namespace A
open H G T
end A
end
section
open Go.RowKit Go.Sort
namespace A
open H G R
theorem kY_(T:am_)(m:aa_)(pos:Nat->Nat)(S:bh_)(id:Int)(i:Nat)(a b:Nat×Nat)(w:World)(hT:aj_ w T m pos)(hS:as_ w S)(hm:gm_ m)(hfi:f1_ S.rs id=some i)(hi:i<S.rs.length)
  (ha:has m a.1=true) (ka:a.2<=G.sizeOf m a.1) (kA:a.2<=1000000) (hb:has m b.1=true) (kb:b.2<=G.sizeOf m b.1) (kB:b.2<=1000000) (hbz:S.rs[i].sn=hd T pos b.1) (hbk:S.rs[i].si=(b.2:Nat)) :
  Calls Tryz.prog 19 #[.pointer (some ⟨S.sb,0,none⟩),.pointer (some ⟨T.tb,0,none⟩),.int .i64 id,bI_ (hd T pos a.1) (a.2:Nat)] w fun e w'=>e=.returned (.int .i64 0)/\H.Frame S.foot w w' ∧
   as_ w' { S with rs:=S.rs.modify i (bJ_ m a b (hd T pos a.1) (a.2:Nat)) }:=by
 have hb1:=((Below.refl w.heap.size w).alloc (nl_) (.cells #[.int .i64 (hd T pos a.1),.int .i64 a.2] 31));obtain⟨b0,b1⟩:=a3_ (Blk.new w #[.int .i64 (hd T pos a.1),.int .i64 a.2] 31);have HB1:=hi_ hb1;have Q:=hi_ (kZ_ T m pos S id i a b _ (hT.below hb1) (hS.below hb1) hm hfi hi ha ka kA hb kb kB hbz hbk);generalize bJ_ m a b (hd T pos a.1) (a.2:Nat)=MV at *;generalize hd T pos a.1=za at *;generalize ((a.2:Nat):Int)=ak at *;unfold bI_ at *;clear hT hS hm hfi hi ha ka kA hb kb kB hbz hbk hb1
 go_enter Tryz.func19,Tryz.ntmps19
 go_wp2_with fail
 refine Q.out.mono ?_;rintro e w2 ⟨rfl,hf2,hs2⟩;have HF2:=hi_ ((Frame.of HB1.out).trans hf2 (fun b hb=>Or.inl hb));have HS2:=hi_ hs2;clear hf2 hs2 Q;go_wp2_with fail
 refine bodyPost_ret (v:=.int .i64 0) (by simp[results,Tryz.results19,go_sem]) rfl ⟨rfl,HF2.out,HS2.out⟩
def rgV(r:Rg):Value:=.agg #[.int .i64 r.id,.int .i64 r.sn,.int .i64 r.si,.int .i64 r.en,.int .i64 r.ei]
theorem nr_{g:Nat}{t:TypeId}{w:World}{a b c d e:Value}(h:Blk g #[a,b,c,d,e] t w)(a' b' c' d' e':Value):Blk g #[a',b',c',d',e'] t (((((w.setCell ⟨g,0,none⟩ a').setCell ⟨g,1,none⟩ b').setCell ⟨g,2,none⟩ c').setCell ⟨g,3,none⟩ d').setCell ⟨g,4,none⟩ e'):=by
 have h9:=((((h.set 0 a').set 1 b').set 2 c').set 3 d').set 4 e';simp only[List.setIfInBounds_toArray,List.set_cons_zero,List.set_cons_succ]at h9;exact h9
theorem range_(S:bh_)(id:Int)(i:Nat)(w:World)(hS:as_ w S)(hfi:f1_ S.rs id=some i)(hi:i<S.rs.length) :
  Calls Tryz.prog 20 #[.pointer (some ⟨S.sb,0,none⟩),.int .i64 id] w fun e w'=>e=.returned (.tuple #[rgV S.rs[i],.int .i64 0])/\Below w.heap.size w w':=by
 have hb1:=((Below.refl w.heap.size w).alloc (nl_) (.cells #[.int .i64 0,.int .i64 0,.int .i64 0,.int .i64 0,.int .i64 0] 54));have HX:=hi_ (Blk.new w #[.int .i64 0,.int .i64 0,.int .i64 0,.int .i64 0,.int .i64 0] 54);have hS1:=hS.below hb1;have HB1:=hi_ hb1;have QF:=hi_ (find_ S id _ hS1);obtain⟨g,cap,e,_,hgl,_⟩:=a1_ hS.rows (by omega);rw[g3_ e hfi]at QF;have hro:ac_ bb_ S.B 54 5 (w.alloc (.cells #[.int .i64 0,.int .i64 0,.int .i64 0,.int .i64 0,.int .i64 0] 54)) (.slice (some ⟨g,0,none⟩) S.rs.length cap) S.rs:=by have:=hS1.rows;rwa [e]at this
 have k0:=(ac_.cell av_ hro hi (k:=0) (by omega)).1;have k1:=(ac_.cell av_ hro hi (k:=1) (by omega)).1;have k2:=(ac_.cell av_ hro hi (k:=2) (by omega)).1;have k3:=(ac_.cell av_ hro hi (k:=3) (by omega)).1;have k4:=(ac_.cell av_ hro hi (k:=4) (by omega)).1;have hg1:=(ae_ hro).1;generalize S.rs[i]=r at *;obtain⟨a0,a1,a2,a3,a4⟩:=r;clear hro hS hS1 hfi hi hb1 e hgl;unfold rgV
 go_enter Tryz.func20,Tryz.ntmps20
 go_upto_region 1 with fail
 generalize w.alloc (.cells #[.int .i64 0,.int .i64 0,.int .i64 0,.int .i64 0,.int .i64 0] 54)=w1 at *;have j0:w1.cell? ⟨g,i*5,none⟩=some (.int .i64 a0):=k0;have j1:w1.cell? ⟨g,i*5+1,none⟩=some (.int .i64 a1):=k1;have j2:w1.cell? ⟨g,i*5+2,none⟩=some (.int .i64 a2):=k2;have j3:w1.cell? ⟨g,i*5+3,none⟩=some (.int .i64 a3):=k3;have j4:w1.cell? ⟨g,i*5+4,none⟩=some (.int .i64 a4):=k4;obtain⟨⟨b0,b1,b2,b3,b4⟩,f0,f1,f2,f3,f4⟩:=cells5 HX.out;have hbl:=HX.out.lt;clear k0 k1 k2 k3 k4;go_wp2_with fail
 refine QF.out.mono ?_;rintro e w1' ⟨rfl,rfl⟩;go_wp2_with fail
 have HV:=hi_ (nr_ HX.out (.int .i64 a0) (.int .i64 a1) (.int .i64 a2) (.int .i64 a3) (.int .i64 a4));have HB2:=hi_ (((((HB1.out.setCell (p:=⟨w.heap.size,0,none⟩) (nl_) (.int .i64 a0)).setCell (p:=⟨w.heap.size,1,none⟩) (nl_) (.int .i64 a1)).setCell (p:=⟨w.heap.size,2,none⟩) (nl_) (.int .i64 a2)).setCell (p:=⟨w.heap.size,3,none⟩) (nl_) (.int .i64 a3)).setCell (p:=⟨w.heap.size,4,none⟩) (nl_) (.int .i64 a4));generalize (((((w1.setCell ⟨w.heap.size,0,none⟩ (.int .i64 a0)).setCell ⟨w.heap.size,1,none⟩ (.int .i64 a1)).setCell ⟨w.heap.size,2,none⟩ (.int .i64 a2)).setCell ⟨w.heap.size,3,none⟩ (.int .i64 a3)).setCell ⟨w.heap.size,4,none⟩ (.int .i64 a4))=WR at *;obtain⟨⟨r0,r1,r2,r3,r4⟩,_⟩:=cells5 HV.out
 (try simp only[Exit.inBlock,Exit.then])
 refine bodyPost_ret (v:=.tuple #[.agg #[.int .i64 a0,.int .i64 a1,.int .i64 a2,.int .i64 a3,.int .i64 a4],.int .i64 0]) (by simp[results,Tryz.results20,go_sem,r0,r1,r2,r3,r4]) rfl ⟨rfl,HB2.out⟩
end A
end
section
open Go.RowKit Go.Shelf
attribute [local go_sem] Oper.semAt_some
namespace A
open H G T
end A
end
section
open Go.RowKit Go.Shelf Go.Sort
namespace A
open H G T R
end A
end
end Go.Proofs.YtinphfpdfodkkaaGreatDoor
