/- Texts. -/
import Derived.Test.YtinphfpdfodkkaaGreatDoorP21
set_option linter.unusedVariables false
set_option linter.unusedSimpArgs false
set_option maxHeartbeats 8000000
set_option maxRecDepth 100000
namespace Go.Proofs.YtinphfpdfodkkaaGreatDoor
section
open Go.RowKit Go.Sort
namespace A
open H G
def mu_(n:Nat):Prop:=∀(B:Nat) (T:am_) (m:aa_) (pos:Nat->Nat) (h:Nat) (deep:Bool) (w:World),aj_ w T m pos->has m h=true->0<h->B<=m.length->h<B->Low B m->(∀i,i<B->(nd m i).attrs.length<=100000)->G.low m n h->(copyT n m h deep).length<=900000->T.slots.length<=m.length →
  Calls Tryz.prog 155 #[.pointer (some ⟨T.tb,0,none⟩),.int .i64 (hd T pos h),.bool deep] w fun e w'=>∃T' pos',e=.returned (.int .i64 (hd T pos' m.length))/\H.Frame T.foot w w'/\Goes w T T'/\aj_ w' T' (copyT n m h deep) pos'/\(∀i,i<m.length->pos' i=pos i)/\T'.slots.length<=(copyT n m h deep).length
theorem ks_{n:Nat}{m:aa_}(W:WF m){h:Nat}(deep:Bool)(hh:h<m.length)(h0:0<h)(hl:G.low m n h):m.length<(copyT n m h deep).length:=(WF.copyT n W deep hh h0 hl).more
theorem fW_{w:World}{T:am_}{r:em_}{g cap:Nat}{V:Value}(h1:g=T.g\/w.heap.size<=g)(h2:T.freeV.ownBlock=V.ownBlock):Goes w T (T.grow r g cap V):=by
 unfold am_.grow
 cases T.frees.getLast? with
 |none=>exact⟨rfl,rfl,rfl,rfl,rfl,h1,fun b hb=>Or.inl hb⟩
 |some s=>exact⟨rfl,rfl,rfl,rfl,rfl,h1,fun b hb=>Or.inl (h2.trans hb)⟩
theorem ha_(T:am_)(r:em_)(g cap:Nat)(V:Value):(T.grow r g cap V).slots.length<=T.slots.length+1:=by
 unfold am_.grow
 split<;>simp
theorem hc_{T:am_}{k:Nat}(h:he_ T (.slice (some ⟨T.g,0,none⟩) T.slots.length T.cap) k):T.foot k:=by
 rcases h with e|e|e
 ·exact Or.inl e
 ·right;left
  have e:some T.g=some k:=e;injection e with e
  exact e.symm
 ·exact Or.inr (Or.inr e)
theorem iP_{α:Type}{F:aa_->α->aa_}(hF:∀m c,m.length<=(F m c).length):∀(l:List α) (m:aa_),m.length<=(l.foldl F m).length
 |[],m=>nl_
 |c :: l,m=>Nat.le_trans (hF m c) (by rw[List.foldl_cons];exact iP_ hF l _)
theorem jI_:∀(n:Nat) (m:aa_) (h:Nat) (deep:Bool),m.length<=(copyT n m h deep).length
 |0,m,h,deep=>by rw[copyT];exact nl_
 |n+1,m,h,deep=>by
  rw[copyT]
  split
  ·refine Nat.le_trans (by simp:m.length<=(m++[bare (nd m h)]).length) (iP_ (fun m' c=>?_) _ _)
   rw[bs_];exact jI_ n m' c true
  ·simp
def cF_(n p:Nat)(m':aa_)(c:Nat):aa_:=put (copyT n m' c true) p m'.length (nd (copyT n m' c true) p).kids.length
theorem d3_(n p:Nat)(m':aa_)(c:Nat):(cF_ n p m' c).length=(copyT n m' c true).length:=by unfold cF_;rw[bs_]
theorem iX_{n p:Nat}{ks:List Nat}{m1:aa_}{i:Nat}(hi:i<ks.length) :
  (ks.take (i+1)).foldl (cF_ n p) m1=cF_ n p ((ks.take i).foldl (cF_ n p) m1) ks[i]/\((ks.take (i+1)).foldl (cF_ n p) m1).length<=(ks.foldl (cF_ n p) m1).length:=by
 constructor
 ·rw[List.take_add_one,List.getElem?_eq_getElem hi,List.foldl_append]
  rfl
 ·conv=>rhs;rw[<-List.take_append_drop (i+1) ks]
  rw[List.foldl_append];exact iP_ (fun m' c=>by rw[d3_];exact jI_ _ _ _ _) _ _
theorem iR_(n:Nat)(ih:mu_ n):mu_ (n+1):=by
 intro B T m pos h deep w hT hh h0 hB hhB hL hA hlo hlen hsl;have hF:=hT.fits;have hfew:=hT.mem.few;have hpl:=hF.lt h hh;have hbj:=bA_ hfew hF hh;have hpj:=aP_ (T:=T) (pos:=pos) h;have QN:=hi_ (node_ T m pos h w hT hh (hA h hhB));have QK:=hi_ (fun W (hb:Below w.heap.size w W)=>j8_ T m pos h W (hT.below hb) hh);have HT:=hi_ hT;have hff:=eE_ hF hfew;have W0:=hF.wf;have hmh:=W0.kinds h (aR_ hh) h0;have HCT:Hid (copyT (n+1) m h deep=if deep=true then(nd m h).kids.foldl (cF_ n m.length) (m++[bare (nd m h)])else m++[bare (nd m h)]):=hi_ (by rw[copyT];rfl);have hmm:m.length<900000:=by
  have:=ks_ (n:=n+1) W0 deep (aR_ hh) h0 hlo;omega
 have hlv:=ez_ hF (by omega);have HC1:=hi_ (WF.copied_one W0 (aR_ hh) h0);have hkf:=cH_ hfew hF hh;have hk:=hF.kind h hh;have hn:=hF.name h hh;have hd':=hF.data h hh;unfold eb_ at QN;rw[hk,hn,hd']at QN;obtain⟨x,hx⟩:∃x,x=bare (nd m h):=⟨_,rfl⟩;have hxk:x.kind=(nd m h).kind:=by rw[hx];rfl
 have hxn:x.name=(nd m h).name:=by rw[hx];rfl
 have hxd:x.data=(nd m h).data:=by rw[hx];rfl
 have hxa:x.attrs=(nd m h).attrs:=by rw[hx];rfl
 have HX:Hid (x=bare (nd m h)):=hi_ hx;rw[<-hxk,<-hxn,<-hxd,<-hxa]at QN;generalize hks:(nd m h).kids=ks at *;have HKs:=hi_ hks;clear hT hx hk hn hd' hxk hxn hxd hks;generalize T.sl (pos h)=r at *
 go_enter Tryz.func155,Tryz.ntmps155
 go_wp2_with fail
 refine QN.out.mono ?_;rintro e w1 ⟨v,rfl,hb1,hat⟩;obtain⟨ao,acap,hv⟩:=aw_.slice (dw_ hat);subst hv;have HB1:=hi_ hb1;have HAt:=hi_ hat;clear hb1 hat QN;go_wp2_with fail
 have HX2:=hi_ (Blk.new w1 #[.int .i64 x.kind,.string ⟨x.name.toArray⟩,.slice ao x.attrs.length acap,.string ⟨x.data.toArray⟩,.int .i64 r.parent,.int .i64 r.first,.int .i64 r.last,.int .i64 r.prev,.int .i64 r.next] 126);have HB2:=hi_ (HB1.out.alloc HB1.out.size (.cells #[.int .i64 x.kind,.string ⟨x.name.toArray⟩,.slice ao x.attrs.length acap,.string ⟨x.data.toArray⟩,.int .i64 r.parent,.int .i64 r.first,.int .i64 r.last,.int .i64 r.prev,.int .i64 r.next] 126));have HAt2:=hi_ (World.ownsRow.alloc HAt.out (.cells #[.int .i64 x.kind,.string ⟨x.name.toArray⟩,.slice ao x.attrs.length acap,.string ⟨x.data.toArray⟩,.int .i64 r.parent,.int .i64 r.first,.int .i64 r.last,.int .i64 r.prev,.int .i64 r.next] 126));rw[<-hxa];have HXa:=hi_ hxa;clear hxa
 generalize w1.alloc (.cells #[.int .i64 x.kind,.string ⟨x.name.toArray⟩,.slice ao x.attrs.length acap,.string ⟨x.data.toArray⟩,.int .i64 r.parent,.int .i64 r.first,.int .i64 r.last,.int .i64 r.prev,.int .i64 r.next] 126)=w2 at *;refine(QK.out _ HB2.out).mono ?_;rintro e w3 ⟨vk,rfl,hb3,hown⟩;obtain⟨ko,kcap,hvk,_⟩:=hown.form;subst hvk;have HOk:=hi_ hown;have HX3:=hi_ (HX2.out.below hb3);have HB3:=bt_ HB2 hb3;have HAt3:=hi_ (own_below HAt2.out hb3);obtain⟨⟨c0,c1,c2,c3,c4,c5,c6,c7,c8⟩,_⟩:=bZ_ HX3.out;have hlx:=HX3.out.lt;have D0:=lc_ c0 hlx;have D1:=lc_ c1 hlx;have D2:=lc_ c2 hlx;have D3:=lc_ c3 hlx;clear hown hb3 QK c4 c5 c6 c7 c8;go_wp2_with fail
 refine aQ_ 12 (by kernel_rfl) (by kernel_rfl) ?_;simp only[List.take_succ_cons,List.take_zero,List.drop_succ_cons,List.drop_zero];repeat (go_big_quiet_step (fail))
 refine wq_ (fun dq=>?_);have HB4:=bt_ HB3 dq.h;have HAt4:=hi_ (dw_ (own_below HAt3.out dq.h));have HOk4:=hi_ (show eO_ T pos w2.heap.size dq.w (.slice ko ks.length kcap) ks from own_below HOk.out dq.h);clear D0 D1 D2 D3 c0 c1 c2 c3 hlx HX2 HX3 HAt HAt2 HAt3 HOk HB1;generalize dq.w=w4 at *;clear dq;have hTv:=(HT.out.below HB4.out).mem.v;have QA:=hi_ (add_ T (.slice (some ⟨T.g,0,none⟩) T.slots.length T.cap) x (.slice ao x.attrs.length acap) w4 hTv hF.frees HAt4.out (by omega) hlv hff);unfold fJ_ at QA;clear hTv;go_wp2_with fail
 refine QA.out.mono ?_;rintro e w5 ⟨g,cap,V',rfl,hf5,hm5,hg5,hv5⟩;have HAd:=hi_ (eX_ T (x:=x) (av:=.slice ao x.attrs.length acap) (g:=g) (cap:=cap) (V:=V') hF.frees);have HF5:=hi_ ((H.Frame.of (S:=T.foot) HB4.out).trans hf5 (fun b hb=>Or.inl (hc_ hb)));have hsz4:=HB4.out.size;have HGo4:=hi_ (fW_ (w:=w4) (r:=aL_ x (.slice ao x.attrs.length acap)) (cap:=cap) (show g=T.g\/w4.heap.size<=g from hg5.imp (fun e=>by have e:some T.g=some g:=e;injection e with e;exact e.symm) (fun e=>e)) hv5);have HGo5:=hi_ ((Goes.refl w T).trans hsz4 HGo4.out);have hFx:=hF.add (x:=x) (by rw[HX.out];rfl) (by rw[HX.out];rfl) (by rw[HX.out];exact hmh) (by rw[HX.out];rfl) HAd.out;have HT5:=hi_ (show aj_ w5 (T.grow (aL_ x (.slice ao x.attrs.length acap)) g cap V') (m++[x]) (iw_ m pos T.next)from ⟨hm5,hFx⟩)
 have HL5:=hi_ (ha_ T (aL_ x (.slice ao x.attrs.length acap)) g cap V');have HNx:Hid (iw_ m pos T.next m.length=T.next):=hi_ (cX_ _ _ _);have HOld:Hid (∀i,i<m.length->iw_ m pos T.next i=pos i):=hi_ (fun i hi=>b6_ hi);generalize hp1:iw_ m pos T.next=pos1 at *;generalize T.grow (aL_ x (.slice ao x.attrs.length acap)) g cap V'=T1 at *;have HNo:Hid (∀g',(Value.slice ko ks.length kcap).ownBlock=some g'->¬T.foot g'/\g'<w4.heap.size):=hi_ (fun g' hg'=>by
  have h1:=(World.ownsRow.lt HOk4.out g' hg').1;have h2:=HB2.out.size;refine⟨fun hft=>?_,(World.ownsRow.lt HOk4.out g' hg').2⟩
  rcases hft with e|e|e
  ·have:=HT.out.mem.blk.lt;omega
  ·have:=(ae_ HT.out.mem.row).1;omega
  ·have:=(World.ownsRow.lt HT.out.mem.free g' e).2;omega)
 have HO5:=hi_ (show eO_ T pos w2.heap.size w5 (.slice ko ks.length kcap) ks from ah_ HOk4.out hf5 (fun g' hg' hft=>(HNo.out g' hg').1 (hc_ hft)));have HNf:Hid (∀g',(Value.slice ko ks.length kcap).ownBlock=some g'->¬T1.foot g'):=hi_ (fun g' hg' hft=>by
  obtain⟨h1,h2⟩:=HNo.out g' hg'
  rcases HGo4.out.foot g' hft with e|e
  ·exact h1 e
  ·omega)
 clear hf5 hm5 hg5 hv5 hFx hp1 QA HOk4 HAt4
 cases deep with
 |false=>
  go_wp2_with fail
  go_ret
  exact⟨T1,pos1,ay_ (congrArg (handle T.bs T.st) HNx.out.symm),HF5.out,HGo5.out,by rw[HCT.out,<-HX.out];exact HT5.out,HOld.out,by rw[HCT.out,<-HX.out];simp;have:=HL5.out;omega⟩
 |true=>
  have HCT2:Hid (copyT (n+1) m h true=ks.foldl (cF_ n m.length) (m++[x])):=hi_ (by rw[HCT.out,if_pos rfl,<-HX.out]);rw[HCT2.out]at hlen;rw[<-HX.out]at HC1;have HLn:=hi_ hlen;have HL6:Hid (T1.slots.length<=(m++[x]).length):=hi_ (by have:=HL5.out;simp;omega);have HW0:=hi_ W0;have HlowN:Hid (∀c,c∈ks->G.low m n c):=hi_ (fun c hc=>hlo c (by rw[HKs.out];exact hc));have HLB:=hi_ hL;have HAA:=hi_ hA;have hmem:∀c,c∈ks->c∈(nd m h).kids:=fun c hc=>by rw[HKs.out];exact hc
  have HKd:Hid (∀c,c∈ks->has m c=true/\0<c/\c<B):=hi_ (fun c hc=>⟨bu_ hF hh (hmem c hc),by
   rcases Nat.eq_zero_or_pos c with e|e
   ·have h1:=(W0.kid h c (hmem c hc)).2
    rw[e,W0.doc.2.2.1]at h1;cases h1
   ·exact e,hL h hhB c (hmem c hc)⟩)
  have HMe:=hi_ hmem;clear hlen hF W0 hlo hL hA hmem hlv hff hmh HL5 HCT HGo4 HNo HAd HT;go_wp2_with fail
  go_loopw [38] (fun v38 wr=>∃(i:Nat) (T':am_) (m':aa_) (pos':Nat->Nat),v38=.int .i64 (i:Nat)/\i<=ks.length/\Hid (m'=(ks.take i).foldl (cF_ n m.length) (m++[x]))/\Hid (aj_ wr T' m' pos')/\Hid (dQ_ m m' h)/\Hid (Goes w T T')/\Hid (H.Frame T.foot w wr)/\Hid (∀j,j<m.length->pos' j=pos j)/\Hid (pos' m.length=T.next)/\Hid (T'.slots.length<=m'.length)/\Hid (eO_ T pos w2.heap.size wr (.slice ko ks.length kcap) ks)/\Hid (∀g',(Value.slice ko ks.length kcap).ownBlock=some g'->¬T'.foot g'))
   (fun v38 _=>ks.length-(Go.RowKit.intOf v38).toNat)
  case atStart=>
   exact⟨0,T1,m++[x],pos1,rfl,Nat.zero_le _,hi_ rfl,HT5,HC1,HGo5,HF5,HOld,HNx,HL6,HO5,HNf⟩
  case round=>
   obtain⟨i,T',m',pos',rfl,hi,HMq,HTr,HC,HGo,HFr,HPo,HPn,HSl,HO,HN⟩:=hrel
   rcases Nat.lt_or_ge i ks.length with hlt|hge
   ·obtain⟨ko',kcap',hv,hcells⟩:=HO.out.form
    obtain⟨g,hko,hg,hbg,hcell⟩:=hcells i ks[i] (List.getElem?_eq_getElem hlt);injection hv with e1 e2 e3
    subst e1 e3;subst hko;have hmem:ks[i]∈ks:=List.getElem_mem hlt;obtain⟨htk,htl⟩:=iX_ (n:=n) (p:=m.length) (m1:=m++[x]) hlt;rw[<-HMq.out]at htk;obtain⟨hkh,hk0,hkB⟩:=HKd.out _ hmem;have hlowc:=HlowN.out _ hmem;have hck:=HMe.out _ hmem;generalize ks[i]=c at *;have hmore:=HC.out.more;have hcm:c<m.length:=aR_ hkh;have hLow':Low B m':=fun j hj d hd=>HLB.out j hj d (by rw[<-HC.out.old j (by omega)];exact hd);have hAA':∀j,j<B->(nd m' j).attrs.length<=100000:=fun j hj=>by rw[HC.out.old j (by omega)];exact HAA.out j hj
    have hkh':has m' c=true:=by unfold has at hkh ⊢;rw[HC.out.old c hcm];exact hkh
    have hlow':G.low m' n c:=dx_ HW0.out.low_all HC.out.old hcm hlowc;have hln2:(copyT n m' c true).length<=900000:=by
     have h1:=htl;rw[htk,d3_]at h1;have:=HLn.out;omega
    obtain⟨C2,W3,C3⟩:=WF.copy_step n HW0.out HC.out hck hlowc;have Q1:=ih B T' m' pos' c true wr HTr.out hkh' hk0 (by omega) hkB hLow' hAA' hlow' hln2 HSl.out;have hhd:hd T' pos' c=handle T.bs T.st (pos c):=by unfold hd;rw[HGo.out.bs,HGo.out.st,HPo.out c hcm]
    rw[HGo.out.tb,hhd]at Q1;have HQ1:=hi_ Q1;have HW3:=hi_ W3;have HC2:=hi_ C2;have HC3:=hi_ (show dQ_ m (cF_ n m.length m' c) h from C3);have HTk:=hi_ htk;have hcell':World.cell? wr ⟨g,i,none⟩=some (.int .i64 (handle T.bs T.st (pos c))):=hcell;have hii:(i:Int)<(ks.length:Int):=by omega
    have hszr:=HFr.out.size;have HMore:=hi_ hmore;clear Q1 W3 C2 C3 htk htl hcell hhd hLow' hAA' hkh' hlow' hln2 hmem hkh hk0 hkB hlowc hck hmore hcm hcells;go_wp2_with fail
    refine HQ1.out.mono ?_;rintro e w6 ⟨T2,pos2,rfl,hf6,hgo6,ht6,hp6,hs6⟩;have HF6:=hi_ (HFr.out.trans hf6 (fun b hb=>HGo.out.foot b hb));have HGo6:=hi_ (HGo.out.trans hszr hgo6);have HO6:=hi_ (show eO_ T pos w2.heap.size w6 (.slice (some ⟨g,0,none⟩) ks.length kcap) ks from ah_ HO.out hf6 (fun g' hg'=>HN.out g' hg'));have HN6:Hid (∀g',(Value.slice (some ⟨g,0,none⟩) ks.length kcap).ownBlock=some g'->¬T2.foot g'):=hi_ (fun g' hg' hf=>by
     have hlt':=(World.ownsRow.lt HO.out g' hg').2
     rcases hgo6.foot g' hf with h1|h1
     ·exact HN.out g' hg' h1
     ·omega)
    have hmore':=HMore.out;have hkk:nd (copyT n m' c true) m.length=nd m' m.length:=HC2.out.old _ hmore';have Q2:=link_ T2 (copyT n m' c true) pos2 m'.length m.length (nd (copyT n m' c true) m.length).kids.length w6 ht6
     (by unfold has;rw[HC2.out.root.2.1];rfl) (by unfold has;rw[hkk,HC.out.root.2.1];rfl) HC2.out.root.1 (nl_) (by omega) HW3.out
    have haft:cI_ (copyT n m' c true) m.length (nd (copyT n m' c true) m.length).kids.length=none:=by unfold cI_;simp
    have hpm:pos2 m.length=T.next:=by rw[hp6 _ hmore'];exact HPn.out
    have hhp:hd T2 pos2 m.length=handle T.bs T.st T.next:=by unfold hd;rw[HGo6.out.bs,HGo6.out.st,hpm]
    have hhq:hd T2 pos2 m'.length=hd T' pos2 m'.length:=by unfold hd;rw[hgo6.bs,hgo6.st]
    rw[HGo6.out.tb,haft,hhp,hhq]at Q2;have HQ2:=hi_ (show Calls _ _ #[_,_,_,.int .i64 0] _ _ from Q2);have HP6:Hid (∀j,j<m.length->pos2 j=pos j):=hi_ (fun j hj=>by rw[hp6 j (by omega)];exact HPo.out j hj);have HPm:=hi_ hpm;have HS6:=hi_ hs6;clear Q2 hf6 hgo6 ht6 hp6 hs6 hkk haft hpm hhp hhq;go_wp2_with fail
    refine HQ2.out.mono ?_;rintro e w7 ⟨T3,rfl,hf7,hl7,ht7⟩;have HF7:=hi_ (HF6.out.trans hf7 (fun b hb=>HGo6.out.foot b (Or.inr (Or.inl hb))));have HGo7:=hi_ (HGo6.out.trans HF6.out.size (Goes.of_like hl7));have HO7:=hi_ (show eO_ T pos w2.heap.size w7 (.slice (some ⟨g,0,none⟩) ks.length kcap) ks from ah_ HO6.out hf7 (fun g' hg' hk=>HN6.out g' hg' (Or.inr (Or.inl hk))));have HN7:Hid (∀g',(Value.slice (some ⟨g,0,none⟩) ks.length kcap).ownBlock=some g'->¬T3.foot g'):=hi_ (fun g' hg' hf=>HN6.out g' hg' (by
     rcases hf with h1|h1|h1
     ·exact Or.inl (h1.trans hl7.tb)
     ·exact Or.inr (Or.inl (h1.trans hl7.g))
     ·exact Or.inr (Or.inr (by rw[<-hl7.freeV];exact h1))))
    have HT7:=hi_ (show aj_ w7 T3 (cF_ n m.length m' c) pos2 from ht7);have HS7:Hid (T3.slots.length<=(cF_ n m.length m' c).length):=hi_ (by rw[d3_,hl7.len];exact HS6.out);clear hf7 hl7 ht7;go_wp2_with fail
    go_roundw
    case rel=>exact⟨i+1,T3,_,pos2,by go_num,by omega,hi_ HTk.out.symm,HT7,HC3,HGo7,HF7,HP6,HPm,HS7,HO7,HN7⟩
    case measure=>simp[Go.RowKit.intOf];omega
   ·have hie:i=ks.length:=by omega
    subst hie;have hnot:¬((ks.length:Nat):Int)<((ks.length:Nat):Int):=by omega
    have hmq:=HMq.out;rw[List.take_length]at hmq;have HMq2:=hi_ hmq;clear hmq;go_wp2_with fail
    go_ret
    have HE:T.next=pos' m.length:=HPn.out.symm;refine⟨T',pos',ay_ ?_,HFr.out,HGo.out,?_,HPo.out,?_⟩
    ·show handle T.bs T.st T.next=handle T.bs T.st (pos' m.length)
     rw[HE]
    ·rw[HCT2.out,<-HMq2.out];exact HTr.out
    ·rw[HCT2.out,<-HMq2.out];exact HSl.out
end A
end
end Go.Proofs.YtinphfpdfodkkaaGreatDoor
