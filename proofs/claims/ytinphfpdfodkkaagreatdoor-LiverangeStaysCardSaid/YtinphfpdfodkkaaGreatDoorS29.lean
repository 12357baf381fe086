/- Texts. -/
import Derived.Test.YtinphfpdfodkkaaGreatDoorS28
import Derived.Test.YtinphfpdfodkkaaGreatDoorS08
set_option linter.unusedVariables false
set_option linter.unusedSimpArgs false
set_option maxHeartbeats 8000000
set_option maxRecDepth 100000
namespace Go.Proofs.YtinphfpdfodkkaaGreatDoor
section
open Go.RowKit Go.Sort
namespace A
open H G R
structure Rg where
 id:Int
 sn:Int
 si:Int
 en:Int
 ei:Int
structure It where
 id:Int
 root:Int
 ref:Int
 before:Bool
def bc_(r:Rg):List Value:=[.int .i64 r.id,.int .i64 r.sn,.int .i64 r.si,.int .i64 r.en,.int .i64 r.ei]
theorem aC_(r:Rg):(bc_ r).length=5:=rfl
def cJ_(r:It):List Value:=[.int .i64 r.id,.int .i64 r.root,.int .i64 r.ref,.bool r.before]
theorem cc_(r:It):(cJ_ r).length=4:=rfl
structure bh_ where
 sb:Nat
 rv:Value
 rs:List Rg
 iv:Value
 its:List It
 last:Int
 B:Nat
theorem cr_{w:World}{g:Nat}{t:TypeId}{a0 a1 a2:Value}(h:Blk g #[a0,a1,a2] t w):w.cell? ⟨g,0,none⟩=some a0/\w.cell? ⟨g,1,none⟩=some a1/\w.cell? ⟨g,2,none⟩=some a2/\g<w.heap.size:=⟨(ae_ h).1 0,(ae_ h).1 1,(ae_ h).1 2,h.lt⟩
structure an_(w:World)(S:bh_):Prop where
 blk:Blk S.sb #[S.rv,S.iv,.int .i64 S.last] 50 w
 rows:ab_ bc_ S.B 54 5 w S.rv S.rs
 itrow:ab_ cJ_ S.B 116 4 w S.iv S.its
 few:S.rs.length<=10000/\S.its.length<=10000
 lastb:0<=S.last/\S.last<=10000
 bb:S.B<=S.sb
def bh_.foot(S:bh_)(k:Nat):Prop:=k=S.sb\/S.rv.ownBlock=some k\/S.iv.ownBlock=some k
theorem an_.below{w w':World}{S:bh_}(h:an_ w S)(b:Below w.heap.size w w'):an_ w' S:=⟨h.blk.below b,own_below h.rows b,own_below h.itrow b,h.few,h.lastb,h.bb⟩
theorem an_.frame{D:Nat->Prop}{w w':World}{S:bh_}(h:an_ w S)(f:H.Frame D w w')(hn:∀k,S.foot k->¬D k):an_ w' S:=
 ⟨h.blk.frame f (hn _ (Or.inl rfl)),ak_ h.rows f (fun g hg=>hn g (Or.inr (Or.inl hg))),ak_ h.itrow f (fun g hg=>hn g (Or.inr (Or.inr hg))),h.few,h.lastb,h.bb⟩
theorem an_.put{w:World}{S:bh_}(h:an_ w S){g cap i k:Nat}(hv:S.rv=.slice (some ⟨g,0,none⟩) S.rs.length cap)(hi:i<S.rs.length)(hk:k<5)(u:Value)(f:Rg->Rg)(hf:bc_ (f S.rs[i])=(bc_ S.rs[i]).set k u) :
  an_ (w.setCell ⟨g,i*5+k,none⟩ u) { S with rs:=S.rs.modify i f }:=by
 have hr:=h.rows;rw[hv]at hr;have hg:(Value.slice (some ⟨g,0,none⟩) S.rs.length cap).ownBlock=some g:=rfl;have n1:S.sb≠g:=fun e=>ai_ hr h.blk (by decide) (by rw[hg,e]);have n2:S.iv.ownBlock≠some g:=fun e=>aQ_ h.itrow hr (by decide) e hg;refine⟨Blk.far h.blk n1 _ _,?_,au_ h.itrow n2 _ _,by show(S.rs.modify i f).length<=_/\_;rw[List.length_modify];exact h.few,h.lastb,h.bb⟩;show ab_ bc_ S.B _ 5 _ S.rv (S.rs.modify i f);have h9:=ab_.store aC_ hr hi hk u f hf;rw[List.length_modify]at h9;rw[hv];exact h9
def Typed(w:World)(k:Nat)(t:TypeId):Prop:=∃cs,Blk k cs t w
theorem Typed.eq{w:World}{k:Nat}{s t:TypeId}(h:Typed w k s)(g:Typed w k t):s=t:=by
 obtain⟨a,ha⟩:=h;obtain⟨b,hb⟩:=g;exact cD_ ha hb
theorem Typed.lt{w:World}{k:Nat}{t:TypeId}(h:Typed w k t):k<w.heap.size:=by obtain⟨a,ha⟩:=h;exact ha.lt
def hn_:List TypeId:=[50,54,116]
def iT_:List TypeId:=[41,92,210,3,142,102,105,143]
theorem jE_:∀s∈hn_,∀t∈iT_,s≠t:=by decide
theorem an_.typed{w:World}{S:bh_}(h:an_ w S){k:Nat}(hk:S.foot k):∃t∈hn_,Typed w k t:=by
 rcases hk with e|e|e
 ·rw[e];exact⟨_,.head _,_,h.blk⟩
 ·exact⟨_,.tail _ (.head _),a3_ h.rows e⟩
 exact⟨_,.tail _ (.tail _ (.head _)),a3_ h.itrow e⟩
theorem an_.foot_lt{w:World}{S:bh_}(h:an_ w S){k:Nat}(hk:S.foot k):k<w.heap.size:=by
 obtain⟨t,_,ht⟩:=h.typed hk;exact ht.lt
theorem bu_.typed{w0 w:World}{X:Tw}(h:bu_ w0 w X){k:Nat}(hk:X.foot k\/∃r∈X.T.slots,r.attrs.ownBlock=some k):∃t∈iT_,Typed w k t:=by
 rcases hk with(e|(e|e|e)|(e|e|⟨x,hx,e|e⟩)|e)|⟨r,hr,e⟩
 ·rw[e];exact⟨_,.head _,_,h.blk⟩
 ·rw[e];exact⟨_,.tail _ (.head _),_,h.tree.mem.blk⟩
 ·exact⟨_,.tail _ (.tail _ (.head _)),a3_ h.tree.mem.row (by rw[e];rfl)⟩
 ·exact⟨_,.tail _ (.tail _ (.tail _ (.head _))),a3_ h.tree.mem.free e⟩
 ·rw[e];exact⟨_,.tail _ (.tail _ (.tail _ (.tail _ (.tail _ (.head _))))),_,h.model.blk⟩
 ·exact⟨_,.tail _ (.tail _ (.tail _ (.tail _ (.tail _ (.tail _ (.head _)))))),a3_ h.model.row (by rw[e];rfl)⟩
 ·exact⟨_,.tail _ (.tail _ (.tail _ (.head _))),a3_ (h.model.kids x hx) e⟩
 ·exact⟨_,.tail _ (.tail _ (.tail _ (.tail _ (.tail _ (.tail _ (.tail _ (.head _))))))),a3_ (h.model.attrs x hx) e⟩
 ·exact⟨_,.tail _ (.tail _ (.tail _ (.head _))),a3_ h.row e⟩
 exact⟨_,.tail _ (.tail _ (.tail _ (.tail _ (.head _)))),a3_ (h.tree.mem.attrs r hr) e⟩
theorem al_.typed{w:World}{T:am_}(h:al_ w T){k:Nat}(hk:T.foot k\/∃r∈T.slots,r.attrs.ownBlock=some k):∃t∈iT_,Typed w k t:=by
 rcases hk with(e|e|e)|⟨r,hr,e⟩
 ·rw[e];exact⟨_,.tail _ (.head _),_,h.blk⟩
 ·exact⟨_,.tail _ (.tail _ (.head _)),a3_ h.row (by rw[e];rfl)⟩
 ·exact⟨_,.tail _ (.tail _ (.tail _ (.head _))),a3_ h.free e⟩
 exact⟨_,.tail _ (.tail _ (.tail _ (.tail _ (.head _)))),a3_ (h.attrs r hr) e⟩
theorem gN_{w:World}{T:am_}{S:bh_}(h:al_ w T)(g:an_ w S){k:Nat}(hk:T.foot k\/∃r∈T.slots,r.attrs.ownBlock=some k):¬S.foot k:=fun hs=>by
 obtain⟨t,ht,h1⟩:=h.typed hk;obtain⟨s,hs2,h2⟩:=g.typed hs;exact jE_ s hs2 t ht (h2.eq h1)
theorem ag_.frame{w w':World}{T:am_}{m:aa_}{pos:Nat->Nat}{S:bh_}(h:ag_ w T m pos)(g:an_ w S)(f:H.Frame S.foot w w'):ag_ w' T m pos:=
 ⟨al_.frame h.mem f (fun k hk=>gN_ h.mem g (Or.inl hk)) (fun r hr b hb=>gN_ h.mem g (Or.inr ⟨r,hr,hb⟩)),h.fits⟩
theorem dm_{w0 w:World}{X:Tw}{S:bh_}(h:bu_ w0 w X)(g:an_ w S){k:Nat}(hk:X.foot k\/∃r∈X.T.slots,r.attrs.ownBlock=some k):¬S.foot k:=fun hs=>by
 obtain⟨t,ht,h1⟩:=h.typed hk;obtain⟨s,hs2,h2⟩:=g.typed hs;exact jE_ s hs2 t ht (h2.eq h1)
theorem bu_.frame{w0 w w':World}{X:Tw}{S:bh_}(h:bu_ w0 w X)(g:an_ w S)(f:H.Frame S.foot w w')(hl:∀k,S.foot k->w0.heap.size<=k):bu_ w0 w' { X with wD:=w',D:=X.foot }:=
 ⟨⟨al_.frame h.tree.mem f (fun k hk=>dm_ h g (Or.inl (Or.inr (Or.inl hk)))) (fun r hr b hb=>dm_ h g (Or.inr ⟨r,hr,hb⟩)),h.tree.fits⟩,
  h.model.frame f (fun k hk=>dm_ h g (Or.inl (Or.inr (Or.inr (Or.inl hk))))),h.sim,h.apart,h.blk.frame f (dm_ h g (Or.inl (Or.inl rfl))),
  ak_ h.row f (fun k hk=>dm_ h g (Or.inl (Or.inr (Or.inr (Or.inr hk))))),h.hap,h.slots,h.bel.trans (f.below hl h.bel.size),h.low,H.Frame.refl _ _,fun k hk=>Or.inl hk⟩
def kU_(l:List Int)(i:Nat):Int:=(0 :: l).getD i 0
theorem dO_{l:List Int}{i:Nat}(h:i<l.length):kU_ l (i+1)=l[i]:=by
 unfold kU_;simp[List.getD,h]
def Asc(l:List Int):Prop:=∀i (h:i<l.length),kU_ l i<l[i]
def RgOk(T:am_)(m:aa_)(pos:Nat->Nat)(r:Rg):Prop:=
 ∃a b:Nat×Nat,(r.sn=hd T pos a.1/\r.si=(a.2:Nat)/\r.en=hd T pos b.1/\r.ei=(b.2:Nat))/\(has m a.1=true/\has m b.1=true)/\(a.2<=G.sizeOf m a.1/\b.2<=G.sizeOf m b.1)/\top m a.1=top m b.1/\lcmp m a b<=0
def ItOk(T:am_)(m:aa_)(pos:Nat->Nat)(x:It):Prop:=
 ∃i j,(x.root=hd T pos i/\x.ref=hd T pos j)/\(has m i=true/\has m j=true)/\contains m i j=true
structure SetOk(T:am_)(m:aa_)(pos:Nat->Nat)(S:bh_):Prop where
 rg:∀r,r∈S.rs->RgOk T m pos r
 it:∀x,x∈S.its->ItOk T m pos x
 rid:Asc (S.rs.map (·.id))
 iid:Asc (S.its.map (·.id))
 rub:∀r,r∈S.rs->r.id<=S.last
 iub:∀x,x∈S.its->x.id<=S.last
theorem e6_{m:aa_}{i k:Nat}(h:k<=G.sizeOf m i):nW_ m i (k:Nat)=true:=by
 unfold nW_;rw[decide_eq_true (by omega),decide_eq_true (by omega)];rfl
theorem hl_{m:aa_}(hD:Whole m)(hA:∀i,(nd m i).attrs.length<=100000):gs_ m:=fun i=>⟨hA i,by have:=(hD i).1;omega⟩
theorem oM_(T:am_)(m:aa_)(pos:Nat->Nat)(S:bh_)(w:World)(hT:ag_ w T m pos)(hS:an_ w S)(hD:Whole m)(hA:∀i,(nd m i).attrs.length<=100000)(hl:m.length<=2000)(hok:SetOk T m pos S) :
  Calls Tryz.prog 21 #[.pointer (some ⟨S.sb,0,none⟩),.pointer (some ⟨T.tb,0,none⟩)] w fun e w'=>e=.returned (.bool true)/\Below w.heap.size w w':=by
 have HS:=hi_ hS;have HT:=hi_ hT;have hlb:=hS.lastb;have hfw:=hS.few;have HRg:=hi_ hok.rg;have HIt:=hi_ hok.it;have HRi:=hi_ hok.rid;have HIi:=hi_ hok.iid;have HRu:=hi_ hok.rub;have HIu:=hi_ hok.iub;have HSz:=hi_ (fun i=>dY_ hT.fits.wf hD (by omega) i);have QC:=hi_ (fun(a b:Nat×Nat) W (hW:Below w.heap.size w W) (ha:has m a.1=true) (hb:has m b.1=true) (ka:a.2<=G.sizeOf m a.1) (kb:b.2<=G.sizeOf m b.1)=>j2_ T m pos a b W (hT.below hW) (hl_ hD hA) ha hb (e6_ ka) (e6_ kb) (by have:=HSz.o a.1;omega) (by have:=HSz.o b.1;omega));have QK:=hi_ (fun(i j:Nat) W (hW:Below w.heap.size w W) (hi:has m i=true) (hj:has m j=true)=>cp_ T m pos i j W (hT.below hW) hi hj);obtain⟨ao,cap,hrv⟩:=ab_.slice hS.rows;obtain⟨ai,capi,hiv⟩:=ab_.slice hS.itrow;have HRv:=hi_ hrv
 have HIv:=hi_ hiv;obtain⟨c0,c1,c2,hlt⟩:=cr_ hS.blk;rw[hrv]at c0;clear hT hS hok hD hA hl hrv hiv
 go_enter Tryz.func21,Tryz.ntmps21
 go_wp2_with fail
 go_loopw [5,17] (fun v5 v17 wr=>∃i:Nat,v5=.int .i64 (kU_ (S.rs.map (·.id)) i)/\v17=.int .i64 (i:Nat)/\i<=S.rs.length/\Hd (Below w.heap.size w wr)) (fun _ v17 _=>S.rs.length-(a2_ v17).toNat)
 case atStart=>exact⟨0,rfl,rfl,Nat.zero_le _,hi_ (br_)⟩
 obtain⟨i,rfl,rfl,hi,HB⟩:=hrel;clear c0 c1 c2 hlt;have HSr:=hi_ (HS.o.below HB.o);obtain⟨c0,c1,c2,hlt⟩:=cr_ HSr.o.blk
 rcases Nat.lt_or_ge i S.rs.length with hlt2|hge
 ·have hii:(i:Int)<(S.rs.length:Int):=by omega
  have hi0:(0:Int)<=(i:Int):=by omega
  have hro:ab_ bc_ S.B 54 5 wr (.slice ao S.rs.length cap) S.rs:=by have:=HSr.o.rows;rwa [HRv.o]at this
  obtain⟨g,cap',e,_,hgl,_⟩:=a1_ hro (by omega);injection e with e1 e2 e3
  subst e1 e3;have k0:=(ab_.cell aC_ hro hlt2 (k:=0) (by omega)).1;have k1:=(ab_.cell aC_ hro hlt2 (k:=1) (by omega)).1;have k2:=(ab_.cell aC_ hro hlt2 (k:=2) (by omega)).1;have k3:=(ab_.cell aC_ hro hlt2 (k:=3) (by omega)).1;have k4:=(ab_.cell aC_ hro hlt2 (k:=4) (by omega)).1;have hmem:S.rs[i]∈S.rs:=List.getElem_mem hlt2;obtain⟨a,b,⟨ea1,ea2,eb1,eb2⟩,⟨ha,hb⟩,⟨ka,kb⟩,ht,hc⟩:=HRg.o _ hmem;have hid1:kU_ (S.rs.map (·.id)) i<S.rs[i].id:=by have:=HRi.o i (by simpa using hlt2);simpa using this
  have hid2:kU_ (S.rs.map (·.id)) (i+1)=S.rs[i].id:=by rw[dO_ (by simpa using hlt2)];simp
  have hid3:=HRu.o _ hmem;have QCr:=hi_ (fun W (hW:Below wr.heap.size wr W)=>QC.o a b W (HB.o.trans (hW.mono HB.o.size)) ha hb ka kb);have hcr:b7_ m a b=(lcmp m a b,0):=if_neg (fun h=>h ht);rw[hcr]at QCr;generalize lcmp m a b=lc at *;generalize kU_ (S.rs.map (·.id)) i=li at *;have HNx:=hi_ hid2;generalize S.rs[i]=r at *;obtain⟨rid,rsn,rsi,ren,rei⟩:=r;dsimp only at ea1 ea2 eb1 eb2 hid1 hid2 hid3;unfold be_ at QCr;rw[<-ea1,<-ea2,<-eb1,<-eb2]at QCr;have j0:wr.cell? ⟨g,i*5,none⟩=some (.int .i64 rid):=k0;have j1:wr.cell? ⟨g,i*5+1,none⟩=some (.int .i64 rsn):=k1;have j2:wr.cell? ⟨g,i*5+2,none⟩=some (.int .i64 rsi):=k2;have j3:wr.cell? ⟨g,i*5+3,none⟩=some (.int .i64 ren):=k3;have j4:wr.cell? ⟨g,i*5+4,none⟩=some (.int .i64 rei):=k4
  have d1:decide (0<lc)=false:=decide_eq_false (by omega);have d2:decide (rid<=li)=false:=decide_eq_false (by omega);have d3:decide (S.last<rid)=false:=decide_eq_false (by omega);clear k0 k1 k2 k3 k4 hmem ea1 ea2 eb1 eb2 ha hb ka kb ht hc hcr hid1 hid2 hid3 hro;have hBa:=(Below.refl wr.heap.size wr).alloc (nl_) (.cells #[.int .i64 rid,.int .i64 rsn,.int .i64 rsi,.int .i64 ren,.int .i64 rei] 54);have HBa:=hi_ hBa;have HXa:=hi_ (Blk.new wr #[.int .i64 rid,.int .i64 rsn,.int .i64 rsi,.int .i64 ren,.int .i64 rei] 54);clear hBa;go_wp2_with fail
  refine(QCr.o _ HBa.o).mono ?_;rintro e w5 ⟨rfl,hb5⟩;have HB5:=hi_ ((HB.o.trans (HBa.o.mono HB.o.size)).trans (hb5.mono (Nat.le_trans HB.o.size HBa.o.size)));have HX5:=hi_ (HXa.o.below hb5);have HS5:=hi_ (HS.o.below HB5.o);clear c0 c1 c2 hlt j0 j1 j2 j3 j4 hgl hb5 QCr;obtain⟨c0,c1,c2,hlt⟩:=cr_ HS5.o.blk;obtain⟨⟨b0,_⟩,_⟩:=cells5 HX5.o;have hbl:=HX5.o.lt;have D2:=lc_ c2 hlt;have DB:=lc_ b0 hbl;go_wp2_with fail
  refine af_ (by kernel_rfl) (by kernel_rfl) ?_;repeat (go_big_quiet_step (fail))
  refine wq_ (fun dq=>?_);have HB6:=bt_ HB5 dq.h;have HX6:=hi_ (HX5.o.below dq.h);clear D2 DB c0 c1 c2 hlt b0 hbl;generalize dq.w=w6 at *;obtain⟨⟨b0,_⟩,_⟩:=cells5 HX6.o;go_wp2_with fail
  go_roundw
  case rel=>exact⟨i+1,by rw[HNx.o],by go_num,by omega,HB6⟩
  simp[a2_];omega
 have hie:i=S.rs.length:=by omega
 subst hie;have hnot:¬((S.rs.length:Nat):Int)<((S.rs.length:Nat):Int):=by omega
 rw[HIv.o]at c1;go_wp2_with fail
 go_loopw [5,59] (fun v5 v59 wr=>∃i:Nat,v5=.int .i64 (kU_ (S.its.map (·.id)) i)/\v59=.int .i64 (i:Nat)/\i<=S.its.length/\Hd (Below w.heap.size w wr)) (fun _ v59 _=>S.its.length-(a2_ v59).toNat)
 case atStart=>exact⟨0,rfl,rfl,Nat.zero_le _,HB⟩
 obtain⟨i,rfl,rfl,hi,HB2⟩:=hrel;clear c0 c1 c2 hlt;have HSq:=hi_ (HS.o.below HB2.o);obtain⟨c0,c1,c2,hlt⟩:=cr_ HSq.o.blk
 rcases Nat.lt_or_ge i S.its.length with hlt2|hge2
 ·have hii:(i:Int)<(S.its.length:Int):=by omega
  have hi0:(0:Int)<=(i:Int):=by omega
  have hro:ab_ cJ_ S.B 116 4 wr (.slice ai S.its.length capi) S.its:=by have:=HSq.o.itrow;rwa [HIv.o]at this
  obtain⟨g,cap',e,_,hgl,_⟩:=a1_ hro (by omega);injection e with e1 e2 e3
  subst e1 e3;have k0:=(ab_.cell cc_ hro hlt2 (k:=0) (by omega)).1;have k1:=(ab_.cell cc_ hro hlt2 (k:=1) (by omega)).1;have k2:=(ab_.cell cc_ hro hlt2 (k:=2) (by omega)).1;have k3:=(ab_.cell cc_ hro hlt2 (k:=3) (by omega)).1;have hmem:S.its[i]∈S.its:=List.getElem_mem hlt2;obtain⟨a,b,⟨ea1,ea2⟩,⟨ha,hb⟩,ht⟩:=HIt.o _ hmem;have hid1:kU_ (S.its.map (·.id)) i<S.its[i].id:=by have:=HIi.o i (by simpa using hlt2);simpa using this
  have hid2:kU_ (S.its.map (·.id)) (i+1)=S.its[i].id:=by rw[dO_ (by simpa using hlt2)];simp
  have hid3:=HIu.o _ hmem;have QKr:=hi_ (fun W (hW:Below wr.heap.size wr W)=>QK.o a b W (HB2.o.trans (hW.mono HB2.o.size)) ha hb);rw[ht]at QKr;generalize kU_ (S.its.map (·.id)) i=li at *;have HNx:=hi_ hid2;generalize S.its[i]=r at *;obtain⟨rid,rrt,rrf,rbf⟩:=r;dsimp only at ea1 ea2 hid1 hid2 hid3;rw[<-ea1,<-ea2]at QKr;have j0:wr.cell? ⟨g,i*4,none⟩=some (.int .i64 rid):=k0;have j1:wr.cell? ⟨g,i*4+1,none⟩=some (.int .i64 rrt):=k1;have j2:wr.cell? ⟨g,i*4+2,none⟩=some (.int .i64 rrf):=k2;have j3:wr.cell? ⟨g,i*4+3,none⟩=some (.bool rbf):=k3;have d2:decide (rid<=li)=false:=decide_eq_false (by omega);have d3:decide (S.last<rid)=false:=decide_eq_false (by omega);clear k0 k1 k2 k3 hmem ea1 ea2 ha hb ht hid1 hid2 hid3 hro
  have HBa:=hi_ ((Below.refl wr.heap.size wr).alloc (nl_) (.cells #[.int .i64 rid,.int .i64 rrt,.int .i64 rrf,.bool rbf] 116));have HXa:=hi_ (Blk.new wr #[.int .i64 rid,.int .i64 rrt,.int .i64 rrf,.bool rbf] 116);have HSa:=hi_ (HSq.o.below HBa.o);go_upto_region 14 with fail
  generalize wr.alloc (.cells #[.int .i64 rid,.int .i64 rrt,.int .i64 rrf,.bool rbf] 116)=w5 at *;clear c0 c1 c2 hlt j0 j1 j2 j3 hgl;obtain⟨c0,c1,c2,hlt⟩:=cr_ HSa.o.blk;obtain⟨b0,b1,b2⟩:w5.cell? ⟨wr.heap.size,0,none⟩=some (.int .i64 rid)/\w5.cell? ⟨wr.heap.size,1,none⟩=some (.int .i64 rrt)/\w5.cell? ⟨wr.heap.size,2,none⟩=some (.int .i64 rrf):=⟨(ae_ HXa.o).1 0,(ae_ HXa.o).1 1,(ae_ HXa.o).1 2⟩;have hbl:=HXa.o.lt;have D2:=lc_ c2 hlt;have DB:=lc_ b0 hbl;have DC:=lc_ b1 hbl;have DD:=lc_ b2 hbl;refine af_ (by kernel_rfl) (by kernel_rfl) ?_;repeat (go_big_quiet_step ((go_at_call 40;exact Calls.later (QKr.o _ (HBa.o.trans ((Later.h _).mono HBa.o.size))))))
  refine wq_ (fun dq=>?_);have HB6:=hi_ ((HB2.o.trans (HBa.o.mono HB2.o.size)).trans (dq.h.mono (Nat.le_trans HB2.o.size HBa.o.size)));have HX6:=hi_ (HXa.o.below dq.h);clear D2 DB DC DD c0 c1 c2 hlt b0 b1 b2 hbl;generalize dq.w=w6 at *;have b0:=(ae_ HX6.o).1 0;go_wp2_with fail
  go_roundw
  case rel=>exact⟨i+1,by rw[HNx.o],by go_num,by omega,HB6⟩
  simp[a2_];omega
 have hie:i=S.its.length:=by omega
 subst hie;have hnot2:¬((S.its.length:Nat):Int)<((S.its.length:Nat):Int):=by omega
 go_wp2_with fail
 go_ret
 exact⟨rfl,HB2.o⟩
def eV_(l:List Rg)(id:Int):Option Nat:=l.findIdx? (fun r=>r.id==id)
def bh_.ptr(S:bh_)(id:Int):Option Addr:=match S.rv.ownBlock,eV_ S.rs id with
 |some g,some i=>some ⟨g,i*5,none⟩
 |_,_=>none
theorem oi_{l:List Rg}{id:Int}{i:Nat}(h:eV_ l id=some i):∃hi:i<l.length,l[i].id=id:=by
 unfold eV_ at h;obtain⟨h1,h2,_⟩:=List.findIdx?_eq_some_iff_getElem.1 h;exact⟨h1,by simpa using h2⟩
theorem ka_{l:List Rg}{id:Int}{i:Nat}(hi:i<l.length)(h1:l[i].id=id)(h2:∀j (hj:j<i),l[j].id≠id):eV_ l id=some i:=by
 unfold eV_;exact List.findIdx?_eq_some_iff_getElem.2 ⟨hi,by simpa using h1,fun j hj=>by simpa using h2 j hj⟩
theorem k8_{l:List Rg}{id:Int}(h:∀j (hj:j<l.length),l[j].id≠id):eV_ l id=none:=by
 unfold eV_;rw[List.findIdx?_eq_none_iff];intro x hx;obtain⟨j,hj,rfl⟩:=List.getElem_of_mem hx;simpa using h j hj
theorem ht_{S:bh_}{id:Int}{i g n cap:Nat}(hv:S.rv=.slice (some ⟨g,0,none⟩) n cap)(h:eV_ S.rs id=some i):S.ptr id=some ⟨g,i*5,none⟩:=by
 unfold bh_.ptr;rw[h,hv];rfl
theorem ptr_no{S:bh_}{id:Int}(h:eV_ S.rs id=none):S.ptr id=none:=by
 unfold bh_.ptr;rw[h]
 cases S.rv.ownBlock<;>rfl
theorem find_(S:bh_)(id:Int)(w:World)(h:an_ w S) :
  Calls Tryz.prog 48 #[.pointer (some ⟨S.sb,0,none⟩),.int .i64 id] w fun e w'=>e=.returned (.pointer (S.ptr id))/\w=w':=by
 have HS:=hi_ h;have hfw:=h.few.1;obtain⟨ao,cap,hrv⟩:=ab_.slice h.rows;have HRv:=hi_ hrv;obtain⟨c0,c1,c2,hlt⟩:=cr_ h.blk;rw[hrv]at c0;obtain⟨R,hR⟩:∃R,R=S.ptr id:=⟨_,rfl⟩;have HR:=hi_ hR;rw[<-hR];clear h hrv hR
 go_enter Tryz.func48,Tryz.ntmps48
 go_wp2_with fail
 go_loopw [11] (fun v11 wr=>∃i:Nat,v11=.int .i64 (i:Nat)/\i<=S.rs.length/\wr=w/\Hd (∀j (hj:j<S.rs.length),j<i->S.rs[j].id≠id))
  (fun v11 _=>S.rs.length-(Go.RowKit.intOf v11).toNat)
 case atStart=>exact⟨0,rfl,Nat.zero_le _,rfl,hi_ (fun j _ hj=>by omega)⟩
 obtain⟨i,rfl,hi,rfl,HI⟩:=hrel
 rcases Nat.lt_or_ge i S.rs.length with hlt2|hge
 ·have hii:(i:Int)<(S.rs.length:Int):=by omega
  have hi0:(0:Int)<=(i:Int):=by omega
  have hro:ab_ bc_ S.B 54 5 wr (.slice ao S.rs.length cap) S.rs:=by have:=HS.o.rows;rwa [HRv.o]at this
  obtain⟨g,cap',e,_,hgl,_⟩:=a1_ hro (by omega);injection e with e1 e2 e3
  subst e1 e3;have k0:=(ab_.cell aC_ hro hlt2 (k:=0) (by omega)).1;have j0:wr.cell? ⟨g,i*5,none⟩=some (.int .i64 S.rs[i].id):=k0
  by_cases hid:S.rs[i].id=id
  ·have HF:Hd (R=some ⟨g,i*5,none⟩):=hi_ (by rw[HR.o];exact ht_ HRv.o (ka_ hlt2 hid (fun j hj=>HI.o j (by omega) hj)))
   have hb:(S.rs[i].id==id)=true:=by rw[hid];exact beq_self_eq_true _
   generalize S.rs[i].id=z at *;clear k0 hro hid;go_wp2_with fail
   exact bodyPost_ret (v:=.pointer (some ⟨g,i*5,none⟩)) (by simp[results,Tryz.results48,go_sem]) rfl ⟨by rw[HF.o],rfl⟩
  have HNx:Hd (∀j (hj:j<S.rs.length),j<i+1->S.rs[j].id≠id):=hi_ (fun j hj hj2=>by
   rcases Nat.lt_or_ge j i with h1|h1
   ·exact HI.o j hj h1
   have:j=i:=by omega
   subst this;exact hid)
  have hb:(S.rs[i].id==id)=false:=bn_ hid;generalize S.rs[i].id=z at *;clear k0 hro;go_wp2_with fail
  go_roundw
  case rel=>exact⟨i+1,by go_num,by omega,trivial,HNx⟩
  simp[Go.RowKit.intOf];omega
 have hie:i=S.rs.length:=by omega
 have HF:Hd (R=none):=hi_ (by rw[HR.o];exact ptr_no (k8_ (fun j hj=>HI.o j hj (by omega))));subst hie;have hnot:¬((S.rs.length:Nat):Int)<((S.rs.length:Nat):Int):=by omega
 go_wp2_with fail
 exact bodyPost_ret (v:=.pointer none) (by simp[results,Tryz.results48,go_sem]) rfl ⟨by rw[HF.o],rfl⟩
theorem infoRg:(Tryz.prog.info? 54).map (fun i=>(i.zero,i.size,i.bytes))=some (some (.agg #[.int .i64 0,.int .i64 0,.int .i64 0,.int .i64 0,.int .i64 0]),5,40):=by kernel_rfl
theorem an_.num{w:World}{S:bh_}(h:an_ w S){z:Int}(h0:0<=z)(h1:z<=10000):an_ (w.setCell ⟨S.sb,2,none⟩ (.int .i64 z)) { S with last:=z }:=by
 have n1:=ai_ h.rows h.blk (by decide);have n2:=ai_ h.itrow h.blk (by decide);have h9:=h.blk.set 2 (.int .i64 z);simp only[List.setIfInBounds_toArray,List.set_cons_zero,List.set_cons_succ]at h9;exact⟨h9,au_ h.rows n1 _ _,au_ h.itrow n2 _ _,h.few,⟨h0,h1⟩,h.bb⟩
theorem an_.row{w w':World}{S:bh_}(h:an_ w S){g cap:Nat}{l:List Rg}(f:H.Frame (fun k=>S.rv.ownBlock=some k) w w')(hr:ab_ bc_ S.B 54 5 w' (.slice (some ⟨g,0,none⟩) l.length cap) l)(hl:l.length<=10000) :
  an_ (w'.setCell ⟨S.sb,0,none⟩ (.slice (some ⟨g,0,none⟩) l.length cap)) { S with rv:=.slice (some ⟨g,0,none⟩) l.length cap,rs:=l }:=by
 have hn:=ai_ h.rows h.blk (by decide);have hb:Blk S.sb #[S.rv,S.iv,.int .i64 S.last] 50 w':=h.blk.frame f hn;have hi:ab_ cJ_ S.B 116 4 w' S.iv S.its:=ak_ h.itrow f (fun g hg hs=>aQ_ h.itrow h.rows (by decide) hg hs);have n1:=ai_ hr hb (by decide);have n2:=ai_ hi hb (by decide);have h9:=hb.set 0 (.slice (some ⟨g,0,none⟩) l.length cap);simp only[List.setIfInBounds_toArray,List.set_cons_zero,List.set_cons_succ]at h9;exact⟨h9,au_ hr n1 _ _,au_ hi n2 _ _,⟨hl,h.few.2⟩,h.lastb,h.bb⟩
theorem lh_(T:am_)(m:aa_)(pos:Nat->Nat)(S:bh_)(z k o:Int)(w:World)(hT:ag_ w T m pos)(hS:an_ w S)(hm:gs_ m)(hp:ns_ T m pos z k o)(ho:o≠0) :
  Calls Tryz.prog 17 #[.pointer (some ⟨S.sb,0,none⟩),.pointer (some ⟨T.tb,0,none⟩),be_ z k] w fun e w'=>e=.returned (.tuple #[.int .i64 0,.int .i64 o])/\Below w.heap.size w w':=by
 have hb1:=((Below.refl w.heap.size w).alloc (nl_) (.cells #[.int .i64 z,.int .i64 k] 31));have hx:=Blk.new w #[.int .i64 z,.int .i64 k] 31;obtain⟨b0,b1⟩:=bz_ hx;have HB1:=hi_ hb1;have Q:=hi_ (hc_ T m pos z k o _ (hT.below hb1) hm hp);have ho2:(o==0)=false:=bn_ ho;unfold be_ at *;clear hT hS hm hp hx hb1
 go_enter Tryz.func17,Tryz.ntmps17
 go_wp2_with fail
 refine Q.o.mono ?_;rintro e w2 ⟨rfl,hb2⟩;have HB2:=bt_ HB1 hb2;clear hb2 Q;go_wp2_with fail
 refine bodyPost_ret (v:=.tuple #[.int .i64 0,.int .i64 o]) (by simp[results,Tryz.results17,go_sem]) rfl ⟨rfl,HB2.o⟩
theorem iz_(T:am_)(m:aa_)(pos:Nat->Nat)(S:bh_)(z k:Int)(w:World)(hT:ag_ w T m pos)(hS:an_ w S)(hm:gs_ m)(hp:ns_ T m pos z k 0)(hr:S.rs.length<10000)(hl:S.last<10000) :
  Calls Tryz.prog 17 #[.pointer (some ⟨S.sb,0,none⟩),.pointer (some ⟨T.tb,0,none⟩),be_ z k] w fun e w'=>∃v,e=.returned (.tuple #[.int .i64 (S.last+1),.int .i64 0])/\H.Frame S.foot w w'/\an_ w' { S with rv:=v,rs:=S.rs++[⟨S.last+1,z,k,z,k⟩],last:=S.last+1 }/\(∀g,v.ownBlock=some g->S.rv.ownBlock=some g\/w.heap.size<=g):=by
 have hb1:=((Below.refl w.heap.size w).alloc (nl_) (.cells #[.int .i64 z,.int .i64 k] 31));have hx:=Blk.new w #[.int .i64 z,.int .i64 k] 31;obtain⟨b0,b1⟩:=bz_ hx;have HB1:=hi_ hb1;have HX:=hi_ hx;have HS:=hi_ hS;have Q:=hi_ (hc_ T m pos z k 0 _ (hT.below hb1) hm hp);have wl:IntKind.i64.wrap (S.last+1)=S.last+1:=IntWalk.i64_in _ (by have:=hS.lastb;omega);have hlb:=hS.lastb;have hsb:=hS.blk.lt;obtain⟨i0,hi0,hz0,hz1,hz2⟩:=info_parts infoRg;unfold be_ at *;clear hT hS hm hp hx hb1
 go_enter Tryz.func17,Tryz.ntmps17
 go_wp2_with fail
 refine Q.o.mono ?_;rintro e w2 ⟨rfl,hb2⟩;have HB2:=bt_ HB1 hb2;have HX2:=hi_ (HX.o.below hb2);have HS2:=hi_ (HS.o.below HB2.o);clear hb2 Q b0 b1;obtain⟨c0,c1,c2,hlt⟩:=cr_ HS2.o.blk;have hf2:=(ae_ HS2.o.blk).2 2 (by show 2<3;omega);go_upto_region 5 with fail
 have HS3:=hi_ (HS2.o.num (z:=S.last+1) (by omega) (by omega));have hnx:w.heap.size≠S.sb:=by omega
 have HX3:=hi_ (HX2.o.far hnx 2 (.int .i64 (S.last+1)));have HF3:=hi_ (Frame.set (S:=S.foot) (Frame.of HB2.o) (g:=S.sb) (Or.inl (Or.inl rfl)) 2 (.int .i64 (S.last+1)));generalize w2.setCell ⟨S.sb,2,none⟩ (.int .i64 (S.last+1))=w3 at *;clear c0 c1 c2 hlt hf2 HS2 HX2 HB2;have hcs:∀W,an_ W { S with last:=S.last+1 }->Blk w.heap.size #[.int .i64 z,.int .i64 k] 31 W->(W.cell? ⟨S.sb,0,none⟩=some S.rv/\W.cell? ⟨S.sb,2,none⟩=some (.int .i64 (S.last+1))/\W.cell? ⟨w.heap.size,0,none⟩=some (.int .i64 z)/\W.cell? ⟨w.heap.size,1,none⟩=some (.int .i64 k)):=fun W h1 h2=>by
  obtain⟨c0,c1,c2,_⟩:=cr_ h1.blk;obtain⟨b0,b1⟩:=bz_ h2;exact⟨c0,c2,b0,b1⟩
 have HCs:=hi_ hcs;have HFr:=hi_ (show S.B<=S.sb from HS.o.bb);have HFw:=hi_ (show S.rs.length<=10000 from HS.o.few.1);obtain⟨ao,cap0,hrv⟩:=ab_.slice HS3.o.rows;have hrv:S.rv=.slice ao S.rs.length cap0:=hrv;have HRv:=hi_ hrv;have hl3:S.sb<w3.heap.size:=HS3.o.blk.lt;clear hcs;refine bH_ (fun W=>W.cell? ⟨S.sb,0,none⟩=some S.rv/\W.cell? ⟨S.sb,2,none⟩=some (.int .i64 (S.last+1))/\W.cell? ⟨w.heap.size,0,none⟩=some (.int .i64 z)/\W.cell? ⟨w.heap.size,1,none⟩=some (.int .i64 k)) 14 [(0,false),(1,false),(2,false),(3,false),(4,false),(5,false),(6,false),(7,false),(8,false),(9,false),(10,false),(11,false),(12,true),(13,true)] (by kernel_rfl) (by kernel_rfl) (HCs.o _ (HS3.o.below (Below.refl w3.heap.size w3).drew) (HX3.o.below (Below.refl w3.heap.size w3).drew)) ?_;iterate 12 (
  refine cP_ _ ?_ rfl (fun _ _ _ h=>h) (by rfl) ?_ ?_
  rotate_left
  focus (
   intro W' hS';obtain⟨s0,s1,s2,s3⟩:=hS';go_simp
   first|done|with_reducible rfl)
  simp only[Act.put,List.setIfInBounds_toArray,List.set_cons_zero,List.set_cons_succ])
 change b4_ _ _ _ _ _ _ _ (World.drew w3);obtain⟨wd,hwd⟩:∃wd,wd=World.drew w3:=⟨_,rfl⟩;have HDr:Hd (Below w3.heap.size w3 wd):=hi_ (by rw[hwd];exact(Below.refl w3.heap.size w3).drew);have HSz:Hd (wd.heap.size=w3.heap.size):=hi_ (by rw[hwd];rfl);rw[<-hwd];clear hwd;have HSd:=hi_ (HS3.o.below HDr.o);have HXd:=hi_ (HX3.o.below HDr.o);have HDa:=hi_ ((Below.refl wd.heap.size wd).alloc (nl_) (.cells #[.int .i64 (S.last+1),.int .i64 z,.int .i64 k,.int .i64 z,.int .i64 k] 54));have hro:wd.ownsRow S.B 54 5 (.slice ao S.rs.length cap0) S.rs.length (S.rs.flatMap bc_):=by
  have h1:=HSd.o.rows;unfold ab_ at h1;rw[<-HRv.o];exact h1
 have HRo:=hi_ hro;clear hro;refine co_ _ rfl (fun K hK=>?_);go_simp
 refine hK _ _ (HCs.o _ (HSd.o.below HDa.o) (HXd.o.below HDa.o)) ?_;clear hK K;try simp only[Act.put,List.setIfInBounds_toArray,List.set_cons_zero,List.set_cons_succ]
 rw[hrv];refine co_ _ rfl (fun K hK=>?_);refine step_append_lies _ (by rfl) _ _ 47 (by rfl) S.B 54 i0 _ 5 40 Tryz.underlying47 hi0 hz0 hz1 hz2 rfl (by decide) (.slice ao S.rs.length cap0) S.rs.length (S.rs.flatMap bc_) (by rfl) (World.ownsRow.alloc HRo.o _) ⟨wd.heap.size,0,none⟩ 1 1 [.int .i64 (S.last+1),.int .i64 z,.int .i64 k,.int .i64 z,.int .i64 k] (by rfl) (by rfl) (World.news_of_block (cs:=#[.int .i64 (S.last+1),.int .i64 z,.int .i64 k,.int .i64 z,.int .i64 k]) (t:=54) (fr:=(0,0)) (heap_alloc_new wd _)) (by simp[Value.oneCell']) (by omega) (by unfold maxLen;omega) (by omega) (by simp;have:=HFr.o;have:=HSz.o;omega) (wd.heap.size+1) (by simp) ?_;intro g cap w5 hown hgrow hat hglt
 have hF5:H.Frame (fun k=>S.rv.ownBlock=some k) wd w5:=H.Frame.grown (S:=fun k=>S.rv.ownBlock=some k) (Frame.alloc (H.Frame.refl _ wd) _) hgrow (fun k hk=>Or.inl (by rw[HRv.o];exact hk));have hbl:∀k,S.rv.ownBlock=some k->S.foot k:=fun k hk=>Or.inr (Or.inl hk);have hrow:ab_ bc_ S.B 54 5 w5 (.slice (some ⟨g,0,none⟩) (S.rs++[(⟨S.last+1,z,k,z,k⟩:Rg)]).length cap) (S.rs++[(⟨S.last+1,z,k,z,k⟩:Rg)]):=by
  unfold ab_;rw[List.length_append,List.flatMap_append];exact hown
 have HM:=hi_ (HSd.o.row (g:=g) (cap:=cap) (l:=S.rs++[(⟨S.last+1,z,k,z,k⟩:Rg)]) hF5 hrow (by rw[List.length_append];show S.rs.length+1<=10000;omega));have hn1:S.rv.ownBlock≠some S.sb:=ai_ HS3.o.rows HS3.o.blk (by decide);have hn2:S.rv.ownBlock≠some w.heap.size:=ai_ HS3.o.rows HX3.o (by decide);have hb5:Blk S.sb #[S.rv,S.iv,.int .i64 (S.last+1)] 50 w5:=HSd.o.blk.frame hF5 hn1;have hx5:Blk w.heap.size #[.int .i64 z,.int .i64 k] 31 w5:=HXd.o.frame hF5 hn2;have HF6:=hi_ (Frame.set (S:=S.foot) ((HF3.o.below_ HDr.o).trans hF5 (fun b hb=>Or.inl (hbl b hb))) (g:=S.sb) (Or.inl (Or.inl rfl)) 0 (.slice (some ⟨g,0,none⟩) (S.rs.length+1) cap))
 have HGo:Hd (S.rv.ownBlock=some g\/w.heap.size<=g):=hi_ (hat.imp (fun e=>by rw[HRv.o];exact e) (fun e=>by have h1:=HF3.o.size;have h2:=HSz.o;omega));obtain⟨c0,c1,c2,hlt⟩:=cr_ hb5;have hfz:=(ae_ hb5).2 0 (by show 0<3;omega);obtain⟨b0,b1⟩:=bz_ hx5;rw[HRv.o]at c0;refine hK _ _ ⟨c0,c2,b0,b1⟩ ?_;have HM2:Hd (an_ (w5.setCell ⟨S.sb,0,none⟩ (.slice (some ⟨g,0,none⟩) (S.rs.length+1) cap)) { S with rv:=.slice (some ⟨g,0,none⟩) (S.rs.length+1) cap,rs:=S.rs++[(⟨S.last+1,z,k,z,k⟩:Rg)],last:=S.last+1 }):=hi_ (by
  have h1:=HM.o;rw[List.length_append]at h1;exact h1)
 clear hK K hown hgrow hat hF5 hrow HM hb5 hx5 hbl hn1 hn2 HRo HDa HSd HXd;show wpList _ _ _ _ _ _;simp only[List.drop_succ_cons,List.drop_zero];go_wp2_with fail
 refine bodyPost_ret (v:=.tuple #[.int .i64 (S.last+1),.int .i64 0]) (by simp[results,Tryz.results17,go_sem]) rfl ⟨rfl,HF6.o,.slice (some ⟨g,0,none⟩) (S.rs.length+1) cap,HM2.o,fun g' hg'=>?_⟩;have e:g=g':=by simpa[Value.ownBlock]using hg'
 have h1:=HGo.o;rw[hrv]at h1;rw[<-e];exact h1
end A
end
section
open Go.RowKit Go.Shelf
namespace A
open H G
section
variable {W0:World} {fn:FuncId} {ts:Array Value} {l D:Nat} {acc:Nat->Bytes} {T:am_} {m:aa_} {pos:Nat->Nat}
end
end A
end
section
open Go.RowKit Go.Shelf Go.Sort
namespace A
open H G R
end A
end
section
open Go.RowKit Go.Sort
namespace A
open H G R
theorem infoIt:(Tryz.prog.info? 116).map (fun i=>(i.zero,i.size,i.bytes))=some (some (.agg #[.int .i64 0,.int .i64 0,.int .i64 0,.bool false]),4,32):=by kernel_rfl
theorem an_.irow{w w':World}{S:bh_}(h:an_ w S){g cap:Nat}{l:List It}(f:H.Frame (fun k=>S.iv.ownBlock=some k) w w')(hr:ab_ cJ_ S.B 116 4 w' (.slice (some ⟨g,0,none⟩) l.length cap) l)(hl:l.length<=10000) :
  an_ (w'.setCell ⟨S.sb,1,none⟩ (.slice (some ⟨g,0,none⟩) l.length cap)) { S with iv:=.slice (some ⟨g,0,none⟩) l.length cap,its:=l }:=by
 have hn:=ai_ h.itrow h.blk (by decide);have hb:Blk S.sb #[S.rv,S.iv,.int .i64 S.last] 50 w':=h.blk.frame f hn;have hi:ab_ bc_ S.B 54 5 w' S.rv S.rs:=ak_ h.rows f (fun g hg hs=>aQ_ h.rows h.itrow (by decide) hg hs);have n1:=ai_ hr hb (by decide);have n2:=ai_ hi hb (by decide);have h9:=hb.set 1 (.slice (some ⟨g,0,none⟩) l.length cap);simp only[List.setIfInBounds_toArray,List.set_cons_zero,List.set_cons_succ]at h9;exact⟨h9,au_ hi n2 _ _,au_ hr n1 _ _,⟨h.few.1,hl⟩,h.lastb,h.bb⟩
theorem jj_(T:am_)(m:aa_)(pos:Nat->Nat)(S:bh_)(z:Int)(w:World)(hT:al_ w T)(hz1:-1<=z)(hz2:z<=9223372036854775807)(hp:T.ptr 0 z=none) :
  Calls Tryz.prog 28 #[.pointer (some ⟨S.sb,0,none⟩),.pointer (some ⟨T.tb,0,none⟩),.int .i64 z] w fun e w'=>e=.returned (.tuple #[.int .i64 0,.int .i64 6])/\Below w.heap.size w w':=by
 have HB1:=hi_ (Below.refl w.heap.size w);have Q:=hi_ (h0_ T z w hT (by omega) hz2 hp);unfold dX_ at Q;clear hT hz1 hz2 hp
 go_enter Tryz.func28,Tryz.ntmps28
 go_wp2_with fail
 refine Q.o.mono ?_;rintro e w1 ⟨rfl,hb1⟩;have HBa:=hi_ (HB1.o.trans hb1);clear hb1 Q HB1;go_upto_region 2 with fail
 have hal:=fun o=>(Below.refl w1.heap.size w1).alloc (nl_) o;generalize hw2:World.alloc w1 _=w2 at *;have hb2:Below w1.heap.size w1 w2:=by rw[<-hw2];exact hal _
 have HB2:=bt_ HBa hb2;clear hw2 hal hb2 HBa;go_wp2_with fail
 exact bodyPost_ret (v:=.tuple #[.int .i64 0,.int .i64 6]) (by simp[results,Tryz.results28,go_sem]) rfl ⟨rfl,HB2.o⟩
theorem kR_(T:am_)(m:aa_)(pos:Nat->Nat)(S:bh_)(i:Nat)(w:World)(hT:ag_ w T m pos)(hS:an_ w S)(hi:has m i=true)(hA:(nd m i).attrs.length<=100000)(hr:S.its.length<10000)(hl:S.last<10000) :
  Calls Tryz.prog 28 #[.pointer (some ⟨S.sb,0,none⟩),.pointer (some ⟨T.tb,0,none⟩),.int .i64 (hd T pos i)] w fun e w'=>∃v,e=.returned (.tuple #[.int .i64 (S.last+1),.int .i64 0])/\H.Frame S.foot w w'/\an_ w' { S with iv:=v,its:=S.its++[⟨S.last+1,hd T pos i,hd T pos i,true⟩],last:=S.last+1 }/\∀g,v.ownBlock=some g->S.iv.ownBlock=some g\/w.heap.size<=g:=by
 have HB1:=hi_ (Below.refl w.heap.size w);have HS:=hi_ hS;have Q:=hi_ (l3_ T m pos i w hT hi hA);have wl:IntKind.i64.wrap (S.last+1)=S.last+1:=IntWalk.i64_in _ (by have:=hS.lastb;omega);have hlb:=hS.lastb;have hsb:=hS.blk.lt;obtain⟨i0,hi0,hz0,hz1,hz2⟩:=info_parts infoIt;unfold dF_ at Q;generalize T.sl (pos i)=sl at *;generalize hd T pos i=z at *;clear hT hS hi hA
 go_enter Tryz.func28,Tryz.ntmps28
 go_wp2_with fail
 refine Q.o.mono ?_;rintro e w1 ⟨nv,rfl,hb1,hrow⟩;obtain⟨bo,bcap,rfl⟩:=ab_.slice hrow;clear hrow;generalize (nd m i).attrs.length=bn at *;have HS1:=hi_ (HS.o.below hb1);have HBa:=hi_ (HB1.o.trans hb1);clear hb1 Q HB1;go_upto_region 2 with fail
 have hal:=fun o=>(Below.refl w1.heap.size w1).alloc (nl_) o;generalize hw2:World.alloc w1 _=w2 at *;have hb2:Below w1.heap.size w1 w2:=by rw[<-hw2];exact hal _
 have HB2:=bt_ HBa hb2;have HS2:=hi_ (HS1.o.below hb2);clear hw2 hal hb2 HS1 HBa;obtain⟨c0,c1,c2,hlt⟩:=cr_ HS2.o.blk;have hf2:=(ae_ HS2.o.blk).2 2 (by show 2<3;omega);go_upto_region 5 with fail
 have HS3:=hi_ (HS2.o.num (z:=S.last+1) (by omega) (by omega));have HF3:=hi_ (Frame.set (S:=S.foot) (Frame.of HB2.o) (g:=S.sb) (Or.inl (Or.inl rfl)) 2 (.int .i64 (S.last+1)));generalize w2.setCell ⟨S.sb,2,none⟩ (.int .i64 (S.last+1))=w3 at *;clear c0 c1 c2 hlt hf2 HS2 HB2;have HCs:=hi_ (fun W (h1:an_ W { S with last:=S.last+1 })=>(⟨(cr_ h1.blk).2.1,(cr_ h1.blk).2.2.1⟩:W.cell? ⟨S.sb,1,none⟩=some S.iv/\W.cell? ⟨S.sb,2,none⟩=some (.int .i64 (S.last+1))));have HFr:=hi_ (show S.B<=S.sb from HS.o.bb);have HFw:=hi_ (show S.its.length<=10000 from HS.o.few.2);obtain⟨ao,cap0,hrv⟩:=ab_.slice HS3.o.itrow;have hrv:S.iv=.slice ao S.its.length cap0:=hrv;have HRv:=hi_ hrv;have hl3:S.sb<w3.heap.size:=HS3.o.blk.lt
 refine bH_ (fun W=>W.cell? ⟨S.sb,1,none⟩=some S.iv/\W.cell? ⟨S.sb,2,none⟩=some (.int .i64 (S.last+1))) 14 [(0,false),(1,false),(2,false),(3,false),(4,false),(5,false),(6,false),(7,false),(8,false),(9,false),(10,false),(11,false),(12,true),(13,true)] (by kernel_rfl) (by kernel_rfl) (HCs.o _ (HS3.o.below (Below.refl w3.heap.size w3).drew)) ?_;iterate 12 (
  refine cP_ _ ?_ rfl (fun _ _ _ h=>h) (by rfl) ?_ ?_
  rotate_left
  focus (
   intro W' hS';obtain⟨s0,s1⟩:=hS';go_simp
   first|done|with_reducible rfl)
  simp only[Act.put,List.setIfInBounds_toArray,List.set_cons_zero,List.set_cons_succ])
 change b4_ _ _ _ _ _ _ _ (World.drew w3);obtain⟨wd,hwd⟩:∃wd,wd=World.drew w3:=⟨_,rfl⟩;have HDr:Hd (Below w3.heap.size w3 wd):=hi_ (by rw[hwd];exact(Below.refl w3.heap.size w3).drew);have HSz:Hd (wd.heap.size=w3.heap.size):=hi_ (by rw[hwd];rfl);rw[<-hwd];clear hwd;have HSd:=hi_ (HS3.o.below HDr.o);have HDa:=hi_ ((Below.refl wd.heap.size wd).alloc (nl_) (.cells #[.int .i64 (S.last+1),.int .i64 z,.int .i64 z,.bool true] 116));have hro:wd.ownsRow S.B 116 4 (.slice ao S.its.length cap0) S.its.length (S.its.flatMap cJ_):=by
  have h1:=HSd.o.itrow;unfold ab_ at h1;rw[<-HRv.o];exact h1
 have HRo:=hi_ hro;clear hro;refine co_ _ rfl (fun K hK=>?_);go_simp
 refine hK _ _ (HCs.o _ (HSd.o.below HDa.o)) ?_;clear hK K;try simp only[Act.put,List.setIfInBounds_toArray,List.set_cons_zero,List.set_cons_succ]
 rw[hrv];refine co_ _ rfl (fun K hK=>?_);refine step_append_lies _ (by rfl) _ _ 48 (by rfl) S.B 116 i0 _ 4 32 Tryz.underlying48 hi0 hz0 hz1 hz2 rfl (by decide) (.slice ao S.its.length cap0) S.its.length (S.its.flatMap cJ_) (by rfl) (World.ownsRow.alloc HRo.o _) ⟨wd.heap.size,0,none⟩ 1 1 [.int .i64 (S.last+1),.int .i64 z,.int .i64 z,.bool true] (by rfl) (by rfl) (World.news_of_block (cs:=#[.int .i64 (S.last+1),.int .i64 z,.int .i64 z,.bool true]) (t:=116) (fr:=(0,0)) (heap_alloc_new wd _)) (by simp[Value.oneCell']) (by omega) (by unfold maxLen;omega) (by omega) (by simp;have:=HFr.o;have:=HSz.o;omega) (wd.heap.size+1) (by simp) ?_;intro g cap w5 hown hgrow hat hglt
 have hF5:H.Frame (fun k=>S.iv.ownBlock=some k) wd w5:=H.Frame.grown (S:=fun k=>S.iv.ownBlock=some k) (Frame.alloc (H.Frame.refl _ wd) _) hgrow (fun k hk=>Or.inl (by rw[HRv.o];exact hk));have hbl:∀k,S.iv.ownBlock=some k->S.foot k:=fun k hk=>Or.inr (Or.inr hk);have hrow:ab_ cJ_ S.B 116 4 w5 (.slice (some ⟨g,0,none⟩) (S.its++[(⟨S.last+1,z,z,true⟩:It)]).length cap) (S.its++[(⟨S.last+1,z,z,true⟩:It)]):=by
  unfold ab_;rw[List.length_append,List.flatMap_append];exact hown
 have HM:=hi_ (HSd.o.irow (g:=g) (cap:=cap) (l:=S.its++[(⟨S.last+1,z,z,true⟩:It)]) hF5 hrow (by rw[List.length_append];show S.its.length+1<=10000;omega));have hn1:S.iv.ownBlock≠some S.sb:=ai_ HS3.o.itrow HS3.o.blk (by decide);have hb5:Blk S.sb #[S.rv,S.iv,.int .i64 (S.last+1)] 50 w5:=HSd.o.blk.frame hF5 hn1;have HF6:=hi_ (Frame.set (S:=S.foot) ((HF3.o.below_ HDr.o).trans hF5 (fun b hb=>Or.inl (hbl b hb))) (g:=S.sb) (Or.inl (Or.inl rfl)) 1 (.slice (some ⟨g,0,none⟩) (S.its.length+1) cap));have HGo:Hd (S.iv.ownBlock=some g\/w.heap.size<=g):=hi_ (hat.imp (fun e=>by rw[HRv.o];exact e) (fun e=>by have h1:=HF3.o.size;have h2:=HSz.o;omega));obtain⟨c0,c1,c2,hlt⟩:=cr_ hb5;have hfz:=(ae_ hb5).2 1 (by show 1<3;omega);rw[HRv.o]at c1;refine hK _ _ ⟨c1,c2⟩ ?_
 have HM2:Hd (an_ (w5.setCell ⟨S.sb,1,none⟩ (.slice (some ⟨g,0,none⟩) (S.its.length+1) cap)) { S with iv:=.slice (some ⟨g,0,none⟩) (S.its.length+1) cap,its:=S.its++[(⟨S.last+1,z,z,true⟩:It)],last:=S.last+1 }):=hi_ (by
  have h1:=HM.o;rw[List.length_append]at h1;exact h1)
 clear hK K hown hgrow hat hF5 hrow HM hb5 hbl hn1 HRo HDa HSd;show wpList _ _ _ _ _ _;simp only[List.drop_succ_cons,List.drop_zero];go_wp2_with fail
 refine bodyPost_ret (v:=.tuple #[.int .i64 (S.last+1),.int .i64 0]) (by simp[results,Tryz.results28,go_sem]) rfl ⟨rfl,HF6.o,.slice (some ⟨g,0,none⟩) (S.its.length+1) cap,HM2.o,fun g' hg'=>?_⟩;have e:g=g':=by simpa[Value.ownBlock]using hg'
 have h1:=HGo.o;rw[hrv]at h1;rw[<-e];exact h1
def nS_(r:Rg)(z k:Int):Rg:={ r with sn:=z,si:=k }
theorem endsEnd(g o:Nat)(w:World):Calls Tryz.prog 47 #[.pointer (some ⟨g,o,none⟩)] w fun e w'=>e=.returned (.tuple #[.pointer (some ⟨g,o+3,none⟩),.pointer (some ⟨g,o+1,none⟩)])/\Below w.heap.size w w':=by
 have HB:=hi_ (Below.refl w.heap.size w)
 go_enter Tryz.func47,Tryz.ntmps47
 go_upto_region 1 with fail
 refine af_ (by kernel_rfl) (by kernel_rfl) ?_;repeat (go_big_quiet_step (fail))
 refine wq_ (fun dq=>?_);have HD:=hi_ dq.h;generalize dq.w=w2 at *;go_wp2_with fail
 refine bodyPost_ret (v:=.tuple #[.pointer (some ⟨g,o+3,none⟩),.pointer (some ⟨g,o+1,none⟩)]) (by simp[results,Tryz.results47,go_sem]) rfl ⟨rfl,HD.o⟩
def ct_(r:Rg)(z k:Int):Rg:={ r with en:=z,ei:=k }
def cN_(m:aa_)(a b:Nat×Nat)(z k:Int)(r:Rg):Rg:=if (b7_ m a b).2≠0\/(b7_ m a b).1=(-1) then⟨r.id,z,k,z,k⟩else ct_ r z k
theorem lP_(T:am_)(m:aa_)(pos:Nat->Nat)(S:bh_)(id:Int)(i:Nat)(a b:Nat×Nat)(w:World)(hT:ag_ w T m pos)(hS:an_ w S)(hm:gs_ m)(hfi:eV_ S.rs id=some i)(hi:i<S.rs.length)
  (ha:has m a.1=true) (ka:a.2<=G.sizeOf m a.1) (kA:a.2<=1000000) (hb:has m b.1=true) (kb:b.2<=G.sizeOf m b.1) (kB:b.2<=1000000) (hbz:S.rs[i].sn=hd T pos b.1) (hbk:S.rs[i].si=(b.2:Nat)) :
  Calls Tryz.prog 45 #[.pointer (some ⟨S.sb,0,none⟩),.pointer (some ⟨T.tb,0,none⟩),.int .i64 id,be_ (hd T pos a.1) (a.2:Nat),.func (.func 47) #[] #[],.int .i64 (-1)] w fun e w'=>e=.returned (.int .i64 0)/\H.Frame S.foot w w' ∧
   an_ w' { S with rs:=S.rs.modify i (cN_ m a b (hd T pos a.1) (a.2:Nat)) }:=by
 have hb1:=((Below.refl w.heap.size w).alloc (nl_) (.cells #[.int .i64 (hd T pos a.1),.int .i64 a.2] 31));have hx:=Blk.new w #[.int .i64 (hd T pos a.1),.int .i64 a.2] 31;have HB1:=hi_ hb1;have HX1:=hi_ hx;have HT1:=hi_ (hT.below hb1);have HS1:=hi_ (hS.below hb1);have HNx:Hd (¬S.foot w.heap.size):=hi_ (fun h=>Nat.lt_irrefl _ (hS.foot_lt h));have hp:ns_ T m pos (hd T pos a.1) (a.2:Nat) 0:=Or.inl ⟨a.1,ha,rfl,by rw[if_pos (e6_ ka)]⟩;have QC:=hi_ (fun W (hW:ag_ W T m pos)=>hc_ T m pos _ _ _ W hW hm hp);have QL:=hi_ (fun W (hW:ag_ W T m pos)=>j2_ T m pos a b W hW hm ha hb (e6_ ka) (e6_ kb) kA kB);obtain⟨ao,cap,hrv⟩:=ab_.slice hS.rows;obtain⟨g,cap',e,_,hgl,_⟩:=a1_ hS.rows (by omega);rw[hrv]at e;injection e with e1 e2 e3
 subst e1 e3;have hptr:=ht_ hrv hfi;have QF:=hi_ (find_ S id _ HS1.o);rw[hptr]at QF;have QE:=hi_ (fun W=>endsEnd g (i*5) W);have HRv:=hi_ hrv;have HOb:Hd (S.rv.ownBlock=some g):=hi_ (by rw[hrv];rfl);have HBz:=hi_ hbz;have HBk:=hi_ hbk;have HMa:Hd (((b7_ m a b).2≠0\/(b7_ m a b).1=(-1))->cN_ m a b (hd T pos a.1) (a.2:Nat)=fun r=>⟨r.id,hd T pos a.1,(a.2:Nat),hd T pos a.1,(a.2:Nat)⟩):=hi_ (fun h=>funext fun r=>if_pos h);have HMb:Hd ((¬((b7_ m a b).2≠0\/(b7_ m a b).1=(-1)))->cN_ m a b (hd T pos a.1) (a.2:Nat)=fun r=>ct_ r (hd T pos a.1) (a.2:Nat)):=hi_ (fun h=>funext fun r=>if_neg h);generalize cN_ m a b (hd T pos a.1) (a.2:Nat)=MV at *;generalize b7_ m a b=res at *;generalize hd T pos a.1=za at *;generalize ((a.2:Nat):Int)=ak at *
 generalize hd T pos b.1=zb at *;generalize ((b.2:Nat):Int)=bk at *;obtain⟨rc,re⟩:=res;dsimp only at QL HMa HMb;unfold be_ at *;clear hT hS hm hp hfi ha ka kA hb kb kB hbz hbk hrv hx hb1 hptr
 go_enter Tryz.func45,Tryz.ntmps45
 go_wp2_with fail
 generalize w.alloc (.cells #[.int .i64 za,.int .i64 ak] 31)=w1 at *;refine QF.o.mono ?_;rintro e w1' ⟨rfl,rfl⟩;obtain⟨b0,b1⟩:=bz_ HX1.o;go_wp2_with fail
 refine(QC.o _ HT1.o).mono ?_;rintro e w2 ⟨rfl,hb2⟩;have HB2:=bt_ HB1 hb2;have HX2:=hi_ (HX1.o.below hb2);have HT2:=hi_ (HT1.o.below hb2);have HS2:=hi_ (HS1.o.below hb2);clear hb2 QF b0 b1 HX1 HT1 HS1;go_wp2_with fail
 refine(QE.o _).mono ?_;rintro e w3 ⟨rfl,hb3⟩;have HB3:=bt_ HB2 hb3;have HX3:=hi_ (HX2.o.below hb3);have HT3:=hi_ (HT2.o.below hb3);have HS3:=hi_ (HS2.o.below hb3);clear hb3 QE HX2 HT2 HS2;obtain⟨b0,b1⟩:=bz_ HX3.o;have hro:ab_ bc_ S.B 54 5 w3 (.slice (some ⟨g,0,none⟩) S.rs.length cap) S.rs:=by have:=HS3.o.rows;rwa [HRv.o]at this
 have hg3:=(ad_ hro).1;have f1:=(ab_.cell aC_ hro hi (k:=3) (by omega)).2;have f2:w3.frozen? ⟨g,i*5+3+1,none⟩=false:=(ab_.cell aC_ hro hi (k:=4) (by omega)).2;have c1:w3.cell? ⟨g,i*5+3,none⟩=some (.int .i64 S.rs[i].en):=(ab_.cell aC_ hro hi (k:=3) (by omega)).1;have c2:w3.cell? ⟨g,i*5+3+1,none⟩=some (.int .i64 S.rs[i].ei):=(ab_.cell aC_ hro hi (k:=4) (by omega)).1;clear hro;go_upto_region 9 with fail
 have HS4:Hd (an_ ((w3.setCell ⟨g,i*5+3,none⟩ (.int .i64 za)).setCell ⟨g,i*5+3+1,none⟩ (.int .i64 ak)) { S with rs:=S.rs.modify i (fun r=>ct_ r za ak) }):=hi_ (by
  have h1:=HS3.o.put HRv.o hi (k:=3) (by omega) (.int .i64 za) (fun r=>{ r with en:=za }) rfl;have h2:=h1.put (by show S.rv=.slice _ (S.rs.modify i _).length cap;rw[List.length_modify];exact HRv.o) (by show i<(S.rs.modify i _).length;rw[List.length_modify];exact hi) (k:=4) (by omega) (.int .i64 ak) (fun r=>{ r with ei:=ak }) rfl;have e:(S.rs.modify i (fun r=>{ r with en:=za })).modify i (fun r=>{ r with ei:=ak })=S.rs.modify i (fun r=>ct_ r za ak):=by
   rw[List.modify_modify_eq];rfl
  rw[show({ S with rs:=S.rs.modify i (fun r=>ct_ r za ak) }:bh_)={ S with rs:=(S.rs.modify i (fun r=>{ r with en:=za })).modify i (fun r=>{ r with ei:=ak }) } by rw[e]];exact h2)
 have hF34:=Frame.set (S:=S.foot) (Frame.set (S:=S.foot) (H.Frame.refl S.foot w3) (g:=g) (Or.inl (Or.inr (Or.inl HOb.o))) (i*5+3) (.int .i64 za)) (g:=g) (Or.inl (Or.inr (Or.inl HOb.o))) (i*5+3+1) (.int .i64 ak);have HX4:=hi_ (HX3.o.frame hF34 HNx.o);have HT4:=hi_ (HT3.o.frame HS3.o hF34);have HF4:Hd (H.Frame S.foot w _):=hi_ ((Frame.of HB3.o).trans hF34 (fun b hb=>Or.inl hb));clear hF34 b0 b1 hg3 f1 f2 c1 c2;generalize (w3.setCell ⟨g,i*5+3,none⟩ (.int .i64 za)).setCell ⟨g,i*5+3+1,none⟩ (.int .i64 ak)=w4 at *;have hi4:i<(S.rs.modify i (fun r=>ct_ r za ak)).length:=by rw[List.length_modify];exact hi
 have hat:(S.rs.modify i (fun r=>ct_ r za ak))[i]=ct_ S.rs[i] za ak:=List.getElem_modify_eq ..;have HAt:=hi_ hat;have hro:ab_ bc_ S.B 54 5 w4 (.slice (some ⟨g,0,none⟩) (S.rs.modify i (fun r=>ct_ r za ak)).length cap) (S.rs.modify i (fun r=>ct_ r za ak)):=by have h1:ab_ bc_ S.B 54 5 w4 S.rv _:=HS4.o.rows;rw[HRv.o]at h1;rw[List.length_modify];exact h1
 have c3:w4.cell? ⟨g,i*5+1,none⟩=some (.int .i64 zb):=by rw[(ab_.cell aC_ hro hi4 (k:=1) (by omega)).1,hat];exact congrArg (fun z=>some (Value.int .i64 z)) HBz.o
 have c4:w4.cell? ⟨g,i*5+1+1,none⟩=some (.int .i64 bk):=by rw[show i*5+1+1=i*5+2 from rfl,(ab_.cell aC_ hro hi4 (k:=2) (by omega)).1,hat];exact congrArg (fun z=>some (Value.int .i64 z)) HBk.o
 have hg4:=(ad_ hro).1;obtain⟨b0,b1⟩:=bz_ HX4.o;have hbl:=HX4.o.lt;have D0:=lc_ b0 hbl;have D1:=lc_ b1 hbl;have D2:=lc_ c3 hg4;have D3:=lc_ c4 hg4;clear hat hro;refine af_ (by kernel_rfl) (by kernel_rfl) ?_;repeat (go_big_quiet_step ((go_at_call 13;exact Calls.later (QL.o _ (HT4.o.below (Later.h _))))))
 refine wq_ (fun dq=>?_);have HX5:=hi_ (HX4.o.below dq.h);have HS5:=hi_ (HS4.o.below dq.h);have HF5:=hi_ (HF4.o.below_ dq.h);clear D0 D1 D2 D3 b0 b1 c3 c4 hbl hg4 HX4 HS4 HT4 HF4;generalize dq.w=w5 at *;clear dq;have hi5:i<(S.rs.modify i (fun r=>ct_ r za ak)).length:=hi4;have HRo5:Hd (ab_ bc_ S.B 54 5 w5 (.slice (some ⟨g,0,none⟩) (S.rs.modify i (fun r=>ct_ r za ak)).length cap) (S.rs.modify i (fun r=>ct_ r za ak))):=hi_ (by have h1:ab_ bc_ S.B 54 5 w5 S.rv _:=HS5.o.rows;rw[HRv.o]at h1;rw[List.length_modify];exact h1);obtain⟨b0,b1⟩:=bz_ HX5.o
 by_cases hre:re=0
 ·have e1:(re==0)=true:=by rw[hre];rfl
  have e2:(re != 0)=false:=by rw[hre];rfl
  by_cases hrc:rc=(-1)
  ·have e3:(rc==(-1))=true:=by rw[hrc];rfl
   have HMa:=hi_ (HMa.o (Or.inr hrc));have c3:w5.cell? ⟨g,i*5+1,none⟩=some (.int .i64 zb):=by rw[(ab_.cell aC_ HRo5.o hi5 (k:=1) (by omega)).1,HAt.o];exact congrArg (fun z=>some (Value.int .i64 z)) HBz.o
   have c4:w5.cell? ⟨g,i*5+1+1,none⟩=some (.int .i64 bk):=by rw[show i*5+1+1=i*5+2 from rfl,(ab_.cell aC_ HRo5.o hi5 (k:=2) (by omega)).1,HAt.o];exact congrArg (fun z=>some (Value.int .i64 z)) HBk.o
   have f3:w5.frozen? ⟨g,i*5+1,none⟩=false:=(ab_.cell aC_ HRo5.o hi5 (k:=1) (by omega)).2;have f4:w5.frozen? ⟨g,i*5+1+1,none⟩=false:=(ab_.cell aC_ HRo5.o hi5 (k:=2) (by omega)).2;have hg5:=(ad_ HRo5.o).1;have HS6:Hd (an_ ((w5.setCell ⟨g,i*5+1,none⟩ (.int .i64 za)).setCell ⟨g,i*5+1+1,none⟩ (.int .i64 ak)) { S with rs:=S.rs.modify i MV }):=hi_ (by
    have h1:=HS5.o.put (by show S.rv=.slice _ (S.rs.modify i _).length cap;rw[List.length_modify];exact HRv.o) hi5 (k:=1) (by omega) (.int .i64 za) (fun r=>{ r with sn:=za }) rfl;have h2:=h1.put (by show S.rv=.slice _ ((S.rs.modify i _).modify i _).length cap;rw[List.length_modify,List.length_modify];exact HRv.o) (by show i<((S.rs.modify i _).modify i _).length;rw[List.length_modify];exact hi5) (k:=2) (by omega) (.int .i64 ak) (fun r=>{ r with si:=ak }) rfl;have e:((S.rs.modify i (fun r=>ct_ r za ak)).modify i (fun r=>{ r with sn:=za })).modify i (fun r=>{ r with si:=ak })=S.rs.modify i MV:=by
     rw[List.modify_modify_eq,List.modify_modify_eq,HMa.o];rfl
    rw[show({ S with rs:=S.rs.modify i MV }:bh_)={ S with rs:=((S.rs.modify i (fun r=>ct_ r za ak)).modify i (fun r=>{ r with sn:=za })).modify i (fun r=>{ r with si:=ak }) } by rw[e]];exact h2)
   have HF6:=hi_ (Frame.set (S:=S.foot) (Frame.set (S:=S.foot) HF5.o (g:=g) (Or.inl (Or.inr (Or.inl HOb.o))) (i*5+1) (.int .i64 za)) (g:=g) (Or.inl (Or.inr (Or.inl HOb.o))) (i*5+1+1) (.int .i64 ak));go_wp2_with fail
   exact bodyPost_ret (v:=.int .i64 0) (by simp[results,Tryz.results45,go_sem]) rfl ⟨rfl,HF6.o,HS6.o⟩
  have e3:(rc==(-1))=false:=bn_ hrc;have HMc:=hi_ (HMb.o (fun h=>h.elim (fun h=>h hre) hrc));have HS6:Hd (an_ w5 { S with rs:=S.rs.modify i MV }):=hi_ (by rw[HMc.o];exact HS5.o);clear hre;go_wp2_with fail
  exact bodyPost_ret (v:=.int .i64 0) (by simp[results,Tryz.results45,go_sem]) rfl ⟨rfl,HF5.o,HS6.o⟩
 have e1:(re==0)=false:=bn_ hre;have e2:(re != 0)=true:=bne_iff_ne.2 hre;have HMa:=hi_ (HMa.o (Or.inl hre));have c3:w5.cell? ⟨g,i*5+1,none⟩=some (.int .i64 zb):=by rw[(ab_.cell aC_ HRo5.o hi5 (k:=1) (by omega)).1,HAt.o];exact congrArg (fun z=>some (Value.int .i64 z)) HBz.o
 have c4:w5.cell? ⟨g,i*5+1+1,none⟩=some (.int .i64 bk):=by rw[show i*5+1+1=i*5+2 from rfl,(ab_.cell aC_ HRo5.o hi5 (k:=2) (by omega)).1,HAt.o];exact congrArg (fun z=>some (Value.int .i64 z)) HBk.o
 have f3:w5.frozen? ⟨g,i*5+1,none⟩=false:=(ab_.cell aC_ HRo5.o hi5 (k:=1) (by omega)).2;have f4:w5.frozen? ⟨g,i*5+1+1,none⟩=false:=(ab_.cell aC_ HRo5.o hi5 (k:=2) (by omega)).2;have hg5:=(ad_ HRo5.o).1;have HS6:Hd (an_ ((w5.setCell ⟨g,i*5+1,none⟩ (.int .i64 za)).setCell ⟨g,i*5+1+1,none⟩ (.int .i64 ak)) { S with rs:=S.rs.modify i MV }):=hi_ (by
  have h1:=HS5.o.put (by show S.rv=.slice _ (S.rs.modify i _).length cap;rw[List.length_modify];exact HRv.o) hi5 (k:=1) (by omega) (.int .i64 za) (fun r=>{ r with sn:=za }) rfl;have h2:=h1.put (by show S.rv=.slice _ ((S.rs.modify i _).modify i _).length cap;rw[List.length_modify,List.length_modify];exact HRv.o) (by show i<((S.rs.modify i _).modify i _).length;rw[List.length_modify];exact hi5) (k:=2) (by omega) (.int .i64 ak) (fun r=>{ r with si:=ak }) rfl;have e:((S.rs.modify i (fun r=>ct_ r za ak)).modify i (fun r=>{ r with sn:=za })).modify i (fun r=>{ r with si:=ak })=S.rs.modify i MV:=by
   rw[List.modify_modify_eq,List.modify_modify_eq,HMa.o];rfl
  rw[show({ S with rs:=S.rs.modify i MV }:bh_)={ S with rs:=((S.rs.modify i (fun r=>ct_ r za ak)).modify i (fun r=>{ r with sn:=za })).modify i (fun r=>{ r with si:=ak }) } by rw[e]];exact h2)
 have HF6:=hi_ (Frame.set (S:=S.foot) (Frame.set (S:=S.foot) HF5.o (g:=g) (Or.inl (Or.inr (Or.inl HOb.o))) (i*5+1) (.int .i64 za)) (g:=g) (Or.inl (Or.inr (Or.inl HOb.o))) (i*5+1+1) (.int .i64 ak));go_wp2_with fail
 exact bodyPost_ret (v:=.int .i64 0) (by simp[results,Tryz.results45,go_sem]) rfl ⟨rfl,HF6.o,HS6.o⟩
end A
end
section
open Go.RowKit Go.Shelf
attribute [local go_sem] Oper.semAt_some
namespace A
open H G T
end A
end
section
open Go.RowKit Go.Sort
namespace A
open H G R
def gH_(l:List It)(id:Int):Option Nat:=l.findIdx? (fun r=>r.id==id)
def bh_.iptr(S:bh_)(id:Int):Option Addr:=match S.iv.ownBlock,gH_ S.its id with
 |some g,some i=>some ⟨g,i*4,none⟩
 |_,_=>none
theorem kb_{l:List It}{id:Int}{i:Nat}(hi:i<l.length)(h1:l[i].id=id)(h2:∀j (hj:j<i),l[j].id≠id):gH_ l id=some i:=by
 unfold gH_;exact List.findIdx?_eq_some_iff_getElem.2 ⟨hi,by simpa using h1,fun j hj=>by simpa using h2 j hj⟩
theorem k9_{l:List It}{id:Int}(h:∀j (hj:j<l.length),l[j].id≠id):gH_ l id=none:=by
 unfold gH_;rw[List.findIdx?_eq_none_iff];intro x hx;obtain⟨j,hj,rfl⟩:=List.getElem_of_mem hx;simpa using h j hj
theorem id_{S:bh_}{id:Int}{i g n cap:Nat}(hv:S.iv=.slice (some ⟨g,0,none⟩) n cap)(h:gH_ S.its id=some i):S.iptr id=some ⟨g,i*4,none⟩:=by
 unfold bh_.iptr;rw[h,hv];rfl
theorem iptr_no{S:bh_}{id:Int}(h:gH_ S.its id=none):S.iptr id=none:=by
 unfold bh_.iptr;rw[h]
 cases S.iv.ownBlock<;>rfl
theorem ms_(S:bh_)(id:Int)(w:World)(h:an_ w S) :
  Calls Tryz.prog 135 #[.pointer (some ⟨S.sb,0,none⟩),.int .i64 id] w fun e w'=>e=.returned (.pointer (S.iptr id))/\w=w':=by
 have HS:=hi_ h;have hfw:=h.few.2;obtain⟨ao,cap,hrv⟩:=ab_.slice h.itrow;have HRv:=hi_ hrv;obtain⟨c0,c1,c2,hlt⟩:=cr_ h.blk;rw[hrv]at c1;obtain⟨R,hR⟩:∃R,R=S.iptr id:=⟨_,rfl⟩;have HR:=hi_ hR;rw[<-hR];clear h hrv hR
 go_enter Tryz.func135,Tryz.ntmps135
 go_wp2_with fail
 go_loopw [11] (fun v11 wr=>∃i:Nat,v11=.int .i64 (i:Nat)/\i<=S.its.length/\wr=w/\Hd (∀j (hj:j<S.its.length),j<i->S.its[j].id≠id))
  (fun v11 _=>S.its.length-(Go.RowKit.intOf v11).toNat)
 case atStart=>exact⟨0,rfl,Nat.zero_le _,rfl,hi_ (fun j _ hj=>by omega)⟩
 obtain⟨i,rfl,hi,rfl,HI⟩:=hrel
 rcases Nat.lt_or_ge i S.its.length with hlt2|hge
 ·have hii:(i:Int)<(S.its.length:Int):=by omega
  have hi0:(0:Int)<=(i:Int):=by omega
  have hro:ab_ cJ_ S.B 116 4 wr (.slice ao S.its.length cap) S.its:=by have:=HS.o.itrow;rwa [HRv.o]at this
  obtain⟨g,cap',e,_,hgl,_⟩:=a1_ hro (by omega);injection e with e1 e2 e3
  subst e1 e3;have k0:=(ab_.cell cc_ hro hlt2 (k:=0) (by omega)).1;have j0:wr.cell? ⟨g,i*4,none⟩=some (.int .i64 S.its[i].id):=k0
  by_cases hid:S.its[i].id=id
  ·have HF:Hd (R=some ⟨g,i*4,none⟩):=hi_ (by rw[HR.o];exact id_ HRv.o (kb_ hlt2 hid (fun j hj=>HI.o j (by omega) hj)))
   have hb:(S.its[i].id==id)=true:=by rw[hid];exact beq_self_eq_true _
   generalize S.its[i].id=z at *;clear k0 hro hid;go_wp2_with fail
   exact bodyPost_ret (v:=.pointer (some ⟨g,i*4,none⟩)) (by simp[results,Tryz.results135,go_sem]) rfl ⟨by rw[HF.o],rfl⟩
  have HNx:Hd (∀j (hj:j<S.its.length),j<i+1->S.its[j].id≠id):=hi_ (fun j hj hj2=>by
   rcases Nat.lt_or_ge j i with h1|h1
   ·exact HI.o j hj h1
   have:j=i:=by omega
   subst this;exact hid)
  have hb:(S.its[i].id==id)=false:=bn_ hid;generalize S.its[i].id=z at *;clear k0 hro;go_wp2_with fail
  go_roundw
  case rel=>exact⟨i+1,by go_num,by omega,trivial,HNx⟩
  simp[Go.RowKit.intOf];omega
 have hie:i=S.its.length:=by omega
 have HF:Hd (R=none):=hi_ (by rw[HR.o];exact iptr_no (k9_ (fun j hj=>HI.o j hj (by omega))));subst hie;have hnot:¬((S.its.length:Nat):Int)<((S.its.length:Nat):Int):=by omega
 go_wp2_with fail
 exact bodyPost_ret (v:=.pointer none) (by simp[results,Tryz.results135,go_sem]) rfl ⟨by rw[HF.o],rfl⟩
theorem set_bad(T:am_)(m:aa_)(pos:Nat->Nat)(S:bh_)(id z k o wr:Int)(i:Nat)(fv:Value)(w:World)(hT:ag_ w T m pos)(hS:an_ w S)(hm:gs_ m)(hfi:eV_ S.rs id=some i)(hp:ns_ T m pos z k o)(ho:o≠0) :
  Calls Tryz.prog 45 #[.pointer (some ⟨S.sb,0,none⟩),.pointer (some ⟨T.tb,0,none⟩),.int .i64 id,be_ z k,fv,.int .i64 wr] w fun e w'=>e=.returned (.int .i64 o)/\Below w.heap.size w w':=by
 have hb1:=((Below.refl w.heap.size w).alloc (nl_) (.cells #[.int .i64 z,.int .i64 k] 31));obtain⟨b0,b1⟩:=bz_ (Blk.new w #[.int .i64 z,.int .i64 k] 31);have HB1:=hi_ hb1;have QF:=hi_ (find_ S id _ (hS.below hb1));obtain⟨hi,_⟩:=oi_ hfi;obtain⟨g,cap,e,_,_,_⟩:=a1_ hS.rows (by omega);rw[ht_ e hfi]at QF;have Q:=hi_ (hc_ T m pos z k o _ (hT.below hb1) hm hp);have ho2:(o==0)=false:=bn_ ho;unfold be_ at *;clear hT hS hm hfi hp hb1 e
 go_enter Tryz.func45,Tryz.ntmps45
 go_wp2_with fail
 refine QF.o.mono ?_;rintro e w1' ⟨rfl,rfl⟩;go_wp2_with fail
 refine Q.o.mono ?_;rintro e w2 ⟨rfl,hb2⟩;have HB2:=bt_ HB1 hb2;clear hb2 Q;go_wp2_with fail
 go_ret
 exact⟨rfl,HB2.o⟩
theorem ku_(T:am_)(m:aa_)(pos:Nat->Nat)(S:bh_)(id z k o:Int)(i:Nat)(w:World)(hT:ag_ w T m pos)(hS:an_ w S)(hm:gs_ m)(hfi:eV_ S.rs id=some i)(hp:ns_ T m pos z k o)(ho:o≠0) :
  Calls Tryz.prog 19 #[.pointer (some ⟨S.sb,0,none⟩),.pointer (some ⟨T.tb,0,none⟩),.int .i64 id,be_ z k] w fun e w'=>e=.returned (.int .i64 o)/\Below w.heap.size w w':=by
 have hb1:=((Below.refl w.heap.size w).alloc (nl_) (.cells #[.int .i64 z,.int .i64 k] 31));obtain⟨b0,b1⟩:=bz_ (Blk.new w #[.int .i64 z,.int .i64 k] 31);have HB1:=hi_ hb1;have Q:=hi_ (set_bad T m pos S id z k o (-1) i (.func (.func 47) #[] #[]) _ (hT.below hb1) (hS.below hb1) hm hfi hp ho);unfold be_ at *;clear hT hS hm hfi hp hb1 ho
 go_enter Tryz.func19,Tryz.ntmps19
 go_wp2_with fail
 refine Q.o.mono ?_;rintro e w2 ⟨rfl,hb2⟩;have HB2:=bt_ HB1 hb2;clear hb2 Q;go_wp2_with fail
 go_ret
 exact⟨rfl,HB2.o⟩
theorem lO_(T:am_)(m:aa_)(pos:Nat->Nat)(S:bh_)(id:Int)(i:Nat)(a b:Nat×Nat)(w:World)(hT:ag_ w T m pos)(hS:an_ w S)(hm:gs_ m)(hfi:eV_ S.rs id=some i)(hi:i<S.rs.length)
  (ha:has m a.1=true) (ka:a.2<=G.sizeOf m a.1) (kA:a.2<=1000000) (hb:has m b.1=true) (kb:b.2<=G.sizeOf m b.1) (kB:b.2<=1000000) (hbz:S.rs[i].sn=hd T pos b.1) (hbk:S.rs[i].si=(b.2:Nat)) :
  Calls Tryz.prog 19 #[.pointer (some ⟨S.sb,0,none⟩),.pointer (some ⟨T.tb,0,none⟩),.int .i64 id,be_ (hd T pos a.1) (a.2:Nat)] w fun e w'=>e=.returned (.int .i64 0)/\H.Frame S.foot w w' ∧
   an_ w' { S with rs:=S.rs.modify i (cN_ m a b (hd T pos a.1) (a.2:Nat)) }:=by
 have hb1:=((Below.refl w.heap.size w).alloc (nl_) (.cells #[.int .i64 (hd T pos a.1),.int .i64 a.2] 31));obtain⟨b0,b1⟩:=bz_ (Blk.new w #[.int .i64 (hd T pos a.1),.int .i64 a.2] 31);have HB1:=hi_ hb1;have Q:=hi_ (lP_ T m pos S id i a b _ (hT.below hb1) (hS.below hb1) hm hfi hi ha ka kA hb kb kB hbz hbk);generalize cN_ m a b (hd T pos a.1) (a.2:Nat)=MV at *;generalize hd T pos a.1=za at *;generalize ((a.2:Nat):Int)=ak at *;unfold be_ at *;clear hT hS hm hfi hi ha ka kA hb kb kB hbz hbk hb1
 go_enter Tryz.func19,Tryz.ntmps19
 go_wp2_with fail
 refine Q.o.mono ?_;rintro e w2 ⟨rfl,hf2,hs2⟩;have HF2:=hi_ ((Frame.of HB1.o).trans hf2 (fun b hb=>Or.inl hb));have HS2:=hi_ hs2;clear hf2 hs2 Q;go_wp2_with fail
 refine bodyPost_ret (v:=.int .i64 0) (by simp[results,Tryz.results19,go_sem]) rfl ⟨rfl,HF2.o,HS2.o⟩
end A
end
section
open Go.RowKit Go.Shelf
attribute [local go_sem] Oper.semAt_some
namespace A
open H G T
end A
end
section
open Go.RowKit Go.Shelf Go.Sort
namespace A
open H G T R
end A
end
end Go.Proofs.YtinphfpdfodkkaaGreatDoor
