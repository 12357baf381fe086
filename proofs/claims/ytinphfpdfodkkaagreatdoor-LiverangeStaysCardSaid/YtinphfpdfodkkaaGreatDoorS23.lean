/- Texts. -/
import Derived.Test.YtinphfpdfodkkaaGreatDoorS18
import Derived.Test.YtinphfpdfodkkaaGreatDoorS09
import Derived.Test.YtinphfpdfodkkaaGreatDoorS17
set_option linter.unusedVariables false
set_option linter.unusedSimpArgs false
set_option maxHeartbeats 8000000
set_option maxRecDepth 100000
namespace Go.Proofs.YtinphfpdfodkkaaGreatDoor
section
open Go.RowKit Go.Shelf
namespace A
open H G
structure Goes(w:World)(T T':am_):Prop where
 tb:T'.tb=T.tb
 bs:T'.bs=T.bs
 st:T'.st=T.st
 B:T'.B=T.B
 root:T'.root=T.root
 g:T'.g=T.g\/w.heap.size<=T'.g
 free:∀b,T'.freeV.ownBlock=some b->T.freeV.ownBlock=some b\/w.heap.size<=b
theorem Goes.of_like{w:World}{T T':am_}(h:bb_ T T'):Goes w T T':=⟨h.tb,h.bs,h.st,h.B,h.root,Or.inl h.g,fun b hb=>Or.inl (by rw[<-h.freeV];exact hb)⟩
theorem Goes.refl(w:World)(T:am_):Goes w T T:=Goes.of_like (bb_.refl T)
theorem Goes.trans{w w':World}{T T' T2:am_}(h:Goes w T T')(hs:w.heap.size<=w'.heap.size)(k:Goes w' T' T2):Goes w T T2:=by
 refine⟨k.tb.trans h.tb,k.bs.trans h.bs,k.st.trans h.st,k.B.trans h.B,k.root.trans h.root,?_,fun b hb=>?_⟩
 ·rcases k.g with e|e
  ·rw[e];exact h.g
  exact Or.inr (by omega)
 rcases k.free b hb with e|e
 ·exact h.free b e
 exact Or.inr (by omega)
theorem Goes.foot{w:World}{T T':am_}(h:Goes w T T')(k:Nat)(hk:T'.foot k):T.foot k\/w.heap.size<=k:=by
 rcases hk with e|e|e
 ·exact Or.inl (Or.inl (e.trans h.tb))
 ·rcases h.g with e2|e2
  ·exact Or.inl (Or.inr (Or.inl (e.trans e2)))
  exact Or.inr (by omega)
 exact(h.free k e).imp (fun h=>Or.inr (Or.inr h)) id
structure Gone(T T':am_)(l:List Nat):Prop where
 len:T'.slots.length=T.slots.length
 sl:∀s,s∉l->T'.sl s=T.sl s
 used:∀s,s∈l->s<T.slots.length->(T'.sl s).used=false
 frees:T'.frees=T.frees++l
 live:T'.live=T.live-(l.length:Nat)
 g:T'.g=T.g
theorem Gone.refl(T:am_):Gone T T []:=⟨rfl,fun _ _=>rfl,(fun s hs=>by cases hs),by simp,by simp,rfl⟩
theorem Gone.step{T T':am_}{l:List Nat}(h:Gone T T' l){s:Nat}(hs:s<T.slots.length)(V:Value):Gone T (T'.freed s V) (l++[s]):=by
 have e:∀t,(T'.freed s V).sl t=if t=s then aT_ else T'.sl t:=fun t=>by
  unfold am_.sl am_.freed;dsimp only;rw[List.getD_eq_getElem?_getD,List.getD_eq_getElem?_getD]
  by_cases ht:t=s
  ·subst ht
   rw[List.getElem?_set_self (by rw[h.len];exact hs),if_pos rfl];rfl
  rw[List.getElem?_set_ne (fun e=>ht e.symm),if_neg ht]
 refine⟨?_,fun t ht=>?_,fun t ht htl=>?_,?_,?_,h.g⟩
 ·show(T'.slots.set s aT_).length=_
  rw[List.length_set,h.len]
 ·rw[List.mem_append,List.mem_singleton]at ht
  rw[e,if_neg (fun h1=>ht (Or.inr h1)),h.sl t (fun h1=>ht (Or.inl h1))]
 ·rw[e]
  by_cases h1:t=s
  ·rw[if_pos h1];rfl
  rw[if_neg h1];exact h.used t ((List.mem_append.1 ht).resolve_right (fun h2=>h1 (List.mem_singleton.1 h2))) htl
 ·show T'.frees++[s]=_
  rw[h.frees,List.append_assoc]
 show T'.live-1=_;rw[h.live,List.length_append];simp only[List.length_singleton];omega
theorem Gone.dropped{T T':am_}{l:List Nat}{pos:Nat->Nat}{w:World}(h:Gone T T' (l.map pos))(k:Goes w T T')(hl:∀i,i∈l->pos i<T.slots.length):jA_ T T' l pos:=by
 refine⟨k.bs,k.st,h.len,by rw[h.live,List.length_map],k.root,h.frees,fun s _ hs=>h.sl s (fun hm=>?_),fun i hi=>h.used _ (List.mem_map_of_mem hi) (hl i hi)⟩;obtain⟨i,hi,e⟩:=List.mem_map.1 hm;exact hs i hi e
theorem kj_(T:am_)(m:aa_)(pos:Nat->Nat)(w:World)(hT:ag_ w T m pos)(h:Nat)(hh:has m h=true)
  (b1 b2:Nat) (hb1:b1<w.heap.size) (hb2:b2<w.heap.size) (c1:w.cell? ⟨b1,0,none⟩=some (.pointer (some ⟨T.tb,0,none⟩))) (c2:w.cell? ⟨b2,0,none⟩=some (.int .i64 (hd T pos h))) (hlen:(walk m h).length<=1000000) :
  Calls Tryz.prog 132 #[.func (.func 98) #[] #[.pointer (some ⟨b1,0,none⟩),.pointer (some ⟨b2,0,none⟩)]] w fun e w'=>∃v,e=.returned v/\e2_ T pos w.heap.size w' v (walk m h)/\Below w.heap.size w w':=by
 have Q:=hi_ ((callsIn_wide (n:=9)).1 (appendSeq_in T m pos w hT h hh 9 b1 b2 hb1 hb2 c1 c2 hlen));clear hT c1 c2
 go_enter Tryz.func132,Tryz.ntmps132
 go_wp2_with fail
 refine Q.o.mono ?_;rintro e w2 ⟨v,rfl,hown,hb⟩;obtain⟨ao,cap,hv,_⟩:=hown.form;subst hv;go_wp2_with fail
 go_ret
 exact⟨_,rfl,hown,hb⟩
theorem oL_(tb:Nat)(z:Int)(w:World) :
  Calls Tryz.prog 49 #[.pointer (some ⟨tb,0,none⟩),.int .i64 z] w fun e w'=>e=.returned (.func (.func 98) #[] #[.pointer (some ⟨w.heap.size,0,none⟩),.pointer (some ⟨w.heap.size+1,0,none⟩)])/\w'=(w.alloc (.cells #[.pointer (some ⟨tb,0,none⟩)] 37)).alloc (.cells #[.int .i64 z] 3):=by
 go_enter Tryz.func49,Tryz.ntmps49
 go_wp2_with fail
 go_ret
 exact⟨rfl,rfl⟩
theorem k4_{w:World}{T:am_}{s gf fcap n:Nat}(h:T.freeV.ownBlock=some gf\/w.heap.size<=gf):Goes w T (T.freed s (.slice (some ⟨gf,0,none⟩) n fcap)):=
 ⟨rfl,rfl,rfl,rfl,rfl,Or.inl rfl,fun b hb=>by
  have e:gf=b:=by
   have h1:(Value.slice (some ⟨gf,0,none⟩) n fcap).ownBlock=some b:=hb;simpa[Value.ownBlock]using h1
  rw[<-e];exact h⟩
theorem eL_{T:am_}{m:aa_}{pos:Nat->Nat}(F:Fits T m pos)(hlm:m.length<=1000000):0<=T.live/\T.live<=1000000:=by
 have h1:=F.live;have h2:=List.length_filter_le (has m) (List.range m.length);rw[List.length_range]at h2;omega
theorem eR_{T:am_}{m:aa_}{pos:Nat->Nat}(F:Fits T m pos)(hfew:T.slots.length<=1000000):T.frees.length<=1000000:=by
 have h1:T.frees.length<=(List.range T.slots.length).length:=List.Nodup.length_le_of_subset F.frees.1 (fun x hx=>List.mem_range.2 (F.frees.2 x hx).1);rw[List.length_range]at h1;omega
theorem hh_{m:aa_}(W:WF m){h:Nat}(hh:has m h=true):(walk m h).length<=m.length:=by
 have h1:(walk m h).length<=(List.range m.length).length:=List.Nodup.length_le_of_subset (WF.walk_nodup W h) (fun x hx=>List.mem_range.2 (aR_ (WF.walk_has W h hh x hx)))
 rwa [List.length_range]at h1
end A
end
section
open Go.RowKit Go.Sort
namespace A
open H G
def ny_(n:Nat):Prop:=∀(B:Nat) (T:am_) (m:aa_) (pos:Nat->Nat) (h:Nat) (deep:Bool) (w:World),ag_ w T m pos->has m h=true->0<h->B<=m.length->h<B->Low B m->(∀i,i<B->(nd m i).attrs.length<=100000)->G.low m n h->(copyT n m h deep).length<=900000->T.slots.length<=m.length →
  Calls Tryz.prog 155 #[.pointer (some ⟨T.tb,0,none⟩),.int .i64 (hd T pos h),.bool deep] w fun e w'=>∃T' pos',e=.returned (.int .i64 (hd T pos' m.length))/\H.Frame T.foot w w'/\Goes w T T'/\ag_ w' T' (copyT n m h deep) pos'/\(∀i,i<m.length->pos' i=pos i)/\T'.slots.length<=(copyT n m h deep).length
theorem li_{n:Nat}{m:aa_}(W:WF m){h:Nat}(deep:Bool)(hh:h<m.length)(h0:0<h)(hl:G.low m n h):m.length<(copyT n m h deep).length:=(WF.copyT n W deep hh h0 hl).more
theorem gd_{w:World}{T:am_}{r:ez_}{g cap:Nat}{V:Value}(h1:g=T.g\/w.heap.size<=g)(h2:T.freeV.ownBlock=V.ownBlock):Goes w T (T.grow r g cap V):=by
 unfold am_.grow
 cases T.frees.getLast? with
 |none=>exact⟨rfl,rfl,rfl,rfl,rfl,h1,fun b hb=>Or.inl hb⟩
 |some s=>exact⟨rfl,rfl,rfl,rfl,rfl,h1,fun b hb=>Or.inl (h2.trans hb)⟩
theorem hz_(T:am_)(r:ez_)(g cap:Nat)(V:Value):(T.grow r g cap V).slots.length<=T.slots.length+1:=by
 unfold am_.grow
 split<;>simp
theorem hA_{T:am_}{k:Nat}(h:hB_ T (.slice (some ⟨T.g,0,none⟩) T.slots.length T.cap) k):T.foot k:=by
 rcases h with e|e|e
 ·exact Or.inl e
 ·right;left
  have e:some T.g=some k:=e;injection e with e
  exact e.symm
 exact Or.inr (Or.inr e)
theorem jq_{α:Type}{F:aa_->α->aa_}(hF:∀m c,m.length<=(F m c).length):∀(l:List α) (m:aa_),m.length<=(l.foldl F m).length
 |[],m=>nl_
 |c :: l,m=>Nat.le_trans (hF m c) (by rw[List.foldl_cons];exact jq_ hF l _)
theorem kh_:∀(n:Nat) (m:aa_) (h:Nat) (deep:Bool),m.length<=(copyT n m h deep).length
 |0,m,h,deep=>by rw[copyT];exact nl_
 |n+1,m,h,deep=>by
  rw[copyT]
  split
  ·refine Nat.le_trans (by simp:m.length<=(m++[bare (nd m h)]).length) (jq_ (fun m' c=>?_) _ _)
   rw[bw_];exact kh_ n m' c true
  simp
def cM_(n p:Nat)(m':aa_)(c:Nat):aa_:=put (copyT n m' c true) p m'.length (nd (copyT n m' c true) p).kids.length
theorem ed_(n p:Nat)(m':aa_)(c:Nat):(cM_ n p m' c).length=(copyT n m' c true).length:=by unfold cM_;rw[bw_]
theorem jx_{n p:Nat}{ks:List Nat}{m1:aa_}{i:Nat}(hi:i<ks.length) :
  (ks.take (i+1)).foldl (cM_ n p) m1=cM_ n p ((ks.take i).foldl (cM_ n p) m1) ks[i]/\((ks.take (i+1)).foldl (cM_ n p) m1).length<=(ks.foldl (cM_ n p) m1).length:=by
 constructor
 ·rw[List.take_add_one,List.getElem?_eq_getElem hi,List.foldl_append]
  rfl
 conv=>rhs;rw[<-List.take_append_drop (i+1) ks]
 rw[List.foldl_append];exact jq_ (fun m' c=>by rw[ed_];exact kh_ _ _ _ _) _ _
theorem js_(n:Nat)(ih:ny_ n):ny_ (n+1):=by
 intro B T m pos h deep w hT hh h0 hB hhB hL hA hlo hlen hsl;have hF:=hT.fits;have hfew:=hT.mem.few;have hpl:=hF.lt h hh;have hbj:=bF_ hfew hF hh;have hpj:=aP_ (T:=T) (pos:=pos) h;have QN:=hi_ (l3_ T m pos h w hT hh (hA h hhB));have QK:=hi_ (fun W (hb:Below w.heap.size w W)=>kN_ T m pos h W (hT.below hb) hh);have HT:=hi_ hT;have hff:=eR_ hF hfew;have W0:=hF.wf;have hmh:=W0.kinds h (aR_ hh) h0;have HCT:Hd (copyT (n+1) m h deep=if deep=true then(nd m h).kids.foldl (cM_ n m.length) (m++[bare (nd m h)])else m++[bare (nd m h)]):=hi_ (by rw[copyT];rfl);have hmm:m.length<900000:=by
  have:=li_ (n:=n+1) W0 deep (aR_ hh) h0 hlo;omega
 have hlv:=eL_ hF (by omega);have HC1:=hi_ (WF.copied_one W0 (aR_ hh) h0);have hkf:=cO_ hfew hF hh;have hk:=hF.kind h hh;have hn:=hF.name h hh;have hd':=hF.data h hh;unfold dF_ at QN;rw[hk,hn,hd']at QN;obtain⟨x,hx⟩:∃x,x=bare (nd m h):=⟨_,rfl⟩;have hxk:x.kind=(nd m h).kind:=by rw[hx];rfl
 have hxn:x.name=(nd m h).name:=by rw[hx];rfl
 have hxd:x.data=(nd m h).data:=by rw[hx];rfl
 have hxa:x.attrs=(nd m h).attrs:=by rw[hx];rfl
 have HX:Hd (x=bare (nd m h)):=hi_ hx;rw[<-hxk,<-hxn,<-hxd,<-hxa]at QN;generalize hks:(nd m h).kids=ks at *;have HKs:=hi_ hks;clear hT hx hk hn hd' hxk hxn hxd hks;generalize T.sl (pos h)=r at *
 go_enter Tryz.func155,Tryz.ntmps155
 go_wp2_with fail
 refine QN.o.mono ?_;rintro e w1 ⟨v,rfl,hb1,hat⟩;obtain⟨ao,acap,hv⟩:=aw_.slice (dE_ hat);subst hv;have HB1:=hi_ hb1;have HAt:=hi_ hat;clear hb1 hat QN;go_wp2_with fail
 have HX2:=hi_ (Blk.new w1 #[.int .i64 x.kind,.string ⟨x.name.toArray⟩,.slice ao x.attrs.length acap,.string ⟨x.data.toArray⟩,.int .i64 r.parent,.int .i64 r.first,.int .i64 r.last,.int .i64 r.prev,.int .i64 r.next] 126);have HB2:=hi_ (HB1.o.alloc HB1.o.size (.cells #[.int .i64 x.kind,.string ⟨x.name.toArray⟩,.slice ao x.attrs.length acap,.string ⟨x.data.toArray⟩,.int .i64 r.parent,.int .i64 r.first,.int .i64 r.last,.int .i64 r.prev,.int .i64 r.next] 126));have HAt2:=hi_ (World.ownsRow.alloc HAt.o (.cells #[.int .i64 x.kind,.string ⟨x.name.toArray⟩,.slice ao x.attrs.length acap,.string ⟨x.data.toArray⟩,.int .i64 r.parent,.int .i64 r.first,.int .i64 r.last,.int .i64 r.prev,.int .i64 r.next] 126));rw[<-hxa];have HXa:=hi_ hxa;clear hxa
 generalize w1.alloc (.cells #[.int .i64 x.kind,.string ⟨x.name.toArray⟩,.slice ao x.attrs.length acap,.string ⟨x.data.toArray⟩,.int .i64 r.parent,.int .i64 r.first,.int .i64 r.last,.int .i64 r.prev,.int .i64 r.next] 126)=w2 at *;refine(QK.o _ HB2.o).mono ?_;rintro e w3 ⟨vk,rfl,hb3,hown⟩;obtain⟨ko,kcap,hvk,_⟩:=hown.form;subst hvk;have HOk:=hi_ hown;have HX3:=hi_ (HX2.o.below hb3);have HB3:=bt_ HB2 hb3;have HAt3:=hi_ (own_below HAt2.o hb3);obtain⟨⟨c0,c1,c2,c3,c4,c5,c6,c7,c8⟩,_⟩:=b2_ HX3.o;have hlx:=HX3.o.lt;have D0:=lc_ c0 hlx;have D1:=lc_ c1 hlx;have D2:=lc_ c2 hlx;have D3:=lc_ c3 hlx;clear hown hb3 QK c4 c5 c6 c7 c8;go_wp2_with fail
 refine aS_ 12 (by kernel_rfl) (by kernel_rfl) ?_;simp only[List.take_succ_cons,List.take_zero,List.drop_succ_cons,List.drop_zero];repeat (go_big_quiet_step (fail))
 refine wq_ (fun dq=>?_);have HB4:=bt_ HB3 dq.h;have HAt4:=hi_ (dE_ (own_below HAt3.o dq.h));have HOk4:=hi_ (show e2_ T pos w2.heap.size dq.w (.slice ko ks.length kcap) ks from own_below HOk.o dq.h);clear D0 D1 D2 D3 c0 c1 c2 c3 hlx HX2 HX3 HAt HAt2 HAt3 HOk HB1;generalize dq.w=w4 at *;clear dq;have hTv:=(HT.o.below HB4.o).mem.v;have QA:=hi_ (add_ T (.slice (some ⟨T.g,0,none⟩) T.slots.length T.cap) x (.slice ao x.attrs.length acap) w4 hTv hF.frees HAt4.o (by omega) hlv hff);unfold fX_ at QA;clear hTv;go_wp2_with fail
 refine QA.o.mono ?_;rintro e w5 ⟨g,cap,V',rfl,hf5,hm5,hg5,hv5⟩;have HAd:=hi_ (fa_ T (x:=x) (av:=.slice ao x.attrs.length acap) (g:=g) (cap:=cap) (V:=V') hF.frees);have HF5:=hi_ ((H.Frame.of (S:=T.foot) HB4.o).trans hf5 (fun b hb=>Or.inl (hA_ hb)));have hsz4:=HB4.o.size;have HGo4:=hi_ (gd_ (w:=w4) (r:=aL_ x (.slice ao x.attrs.length acap)) (cap:=cap) (show g=T.g\/w4.heap.size<=g from hg5.imp (fun e=>by have e:some T.g=some g:=e;injection e with e;exact e.symm) (fun e=>e)) hv5);have HGo5:=hi_ ((Goes.refl w T).trans hsz4 HGo4.o);have hFx:=hF.add (x:=x) (by rw[HX.o];rfl) (by rw[HX.o];rfl) (by rw[HX.o];exact hmh) (by rw[HX.o];rfl) HAd.o;have HT5:=hi_ (show ag_ w5 (T.grow (aL_ x (.slice ao x.attrs.length acap)) g cap V') (m++[x]) (i6_ m pos T.next)from ⟨hm5,hFx⟩)
 have HL5:=hi_ (hz_ T (aL_ x (.slice ao x.attrs.length acap)) g cap V');have HNx:Hd (i6_ m pos T.next m.length=T.next):=hi_ (c8_ _ _ _);have HOld:Hd (∀i,i<m.length->i6_ m pos T.next i=pos i):=hi_ (fun i hi=>b8_ hi);generalize hp1:i6_ m pos T.next=pos1 at *;generalize T.grow (aL_ x (.slice ao x.attrs.length acap)) g cap V'=T1 at *;have HNo:Hd (∀g',(Value.slice ko ks.length kcap).ownBlock=some g'->¬T.foot g'/\g'<w4.heap.size):=hi_ (fun g' hg'=>by
  have h1:=(World.ownsRow.lt HOk4.o g' hg').1;have h2:=HB2.o.size;refine⟨fun hft=>?_,(World.ownsRow.lt HOk4.o g' hg').2⟩
  rcases hft with e|e|e
  ·have:=HT.o.mem.blk.lt;omega
  ·have:=(ad_ HT.o.mem.row).1;omega
  have:=(World.ownsRow.lt HT.o.mem.free g' e).2;omega)
 have HO5:=hi_ (show e2_ T pos w2.heap.size w5 (.slice ko ks.length kcap) ks from ak_ HOk4.o hf5 (fun g' hg' hft=>(HNo.o g' hg').1 (hA_ hft)));have HNf:Hd (∀g',(Value.slice ko ks.length kcap).ownBlock=some g'->¬T1.foot g'):=hi_ (fun g' hg' hft=>by
  obtain⟨h1,h2⟩:=HNo.o g' hg'
  rcases HGo4.o.foot g' hft with e|e
  ·exact h1 e
  omega)
 clear hf5 hm5 hg5 hv5 hFx hp1 QA HOk4 HAt4
 cases deep with
 |false=>
  go_wp2_with fail
  go_ret
  exact⟨T1,pos1,aE_ (congrArg (handle T.bs T.st) HNx.o.symm),HF5.o,HGo5.o,by rw[HCT.o,<-HX.o];exact HT5.o,HOld.o,by rw[HCT.o,<-HX.o];simp;have:=HL5.o;omega⟩
 |true=>
  have HCT2:Hd (copyT (n+1) m h true=ks.foldl (cM_ n m.length) (m++[x])):=hi_ (by rw[HCT.o,if_pos rfl,<-HX.o]);rw[HCT2.o]at hlen;rw[<-HX.o]at HC1;have HLn:=hi_ hlen;have HL6:Hd (T1.slots.length<=(m++[x]).length):=hi_ (by have:=HL5.o;simp;omega);have HW0:=hi_ W0;have HlowN:Hd (∀c,c∈ks->G.low m n c):=hi_ (fun c hc=>hlo c (by rw[HKs.o];exact hc));have HLB:=hi_ hL;have HAA:=hi_ hA;have hmem:∀c,c∈ks->c∈(nd m h).kids:=fun c hc=>by rw[HKs.o];exact hc
  have HKd:Hd (∀c,c∈ks->has m c=true/\0<c/\c<B):=hi_ (fun c hc=>⟨by_ hF hh (hmem c hc),by
   rcases Nat.eq_zero_or_pos c with e|e
   ·have h1:=(W0.kid h c (hmem c hc)).2
    rw[e,W0.doc.2.2.1]at h1;cases h1
   exact e,hL h hhB c (hmem c hc)⟩)
  have HMe:=hi_ hmem;clear hlen hF W0 hlo hL hA hmem hlv hff hmh HL5 HCT HGo4 HNo HAd HT;go_wp2_with fail
  go_loopw [38] (fun v38 wr=>∃(i:Nat) (T':am_) (m':aa_) (pos':Nat->Nat),v38=.int .i64 (i:Nat)/\i<=ks.length/\Hd (m'=(ks.take i).foldl (cM_ n m.length) (m++[x]))/\Hd (ag_ wr T' m' pos')/\Hd (dW_ m m' h)/\Hd (Goes w T T')/\Hd (H.Frame T.foot w wr)/\Hd (∀j,j<m.length->pos' j=pos j)/\Hd (pos' m.length=T.next)/\Hd (T'.slots.length<=m'.length)/\Hd (e2_ T pos w2.heap.size wr (.slice ko ks.length kcap) ks)/\Hd (∀g',(Value.slice ko ks.length kcap).ownBlock=some g'->¬T'.foot g'))
   (fun v38 _=>ks.length-(Go.RowKit.intOf v38).toNat)
  case atStart=>
   exact⟨0,T1,m++[x],pos1,rfl,Nat.zero_le _,hi_ rfl,HT5,HC1,HGo5,HF5,HOld,HNx,HL6,HO5,HNf⟩
  obtain⟨i,T',m',pos',rfl,hi,HMq,HTr,HC,HGo,HFr,HPo,HPn,HSl,HO,HN⟩:=hrel
  rcases Nat.lt_or_ge i ks.length with hlt|hge
  ·obtain⟨ko',kcap',hv,hcells⟩:=HO.o.form
   obtain⟨g,hko,hg,hbg,hcell⟩:=hcells i ks[i] (List.getElem?_eq_getElem hlt);injection hv with e1 e2 e3
   subst e1 e3;subst hko;have hmem:ks[i]∈ks:=List.getElem_mem hlt;obtain⟨htk,htl⟩:=jx_ (n:=n) (p:=m.length) (m1:=m++[x]) hlt;rw[<-HMq.o]at htk;obtain⟨hkh,hk0,hkB⟩:=HKd.o _ hmem;have hlowc:=HlowN.o _ hmem;have hck:=HMe.o _ hmem;generalize ks[i]=c at *;have hmore:=HC.o.more;have hcm:c<m.length:=aR_ hkh;have hLow':Low B m':=fun j hj d hd=>HLB.o j hj d (by rw[<-HC.o.old j (by omega)];exact hd);have hAA':∀j,j<B->(nd m' j).attrs.length<=100000:=fun j hj=>by rw[HC.o.old j (by omega)];exact HAA.o j hj
   have hkh':has m' c=true:=by unfold has at hkh ⊢;rw[HC.o.old c hcm];exact hkh
   have hlow':G.low m' n c:=dG_ HW0.o.low_all HC.o.old hcm hlowc;have hln2:(copyT n m' c true).length<=900000:=by
    have h1:=htl;rw[htk,ed_]at h1;have:=HLn.o;omega
   obtain⟨C2,W3,C3⟩:=WF.copy_step n HW0.o HC.o hck hlowc;have Q1:=ih B T' m' pos' c true wr HTr.o hkh' hk0 (by omega) hkB hLow' hAA' hlow' hln2 HSl.o;have hhd:hd T' pos' c=handle T.bs T.st (pos c):=by unfold hd;rw[HGo.o.bs,HGo.o.st,HPo.o c hcm]
   rw[HGo.o.tb,hhd]at Q1;have HQ1:=hi_ Q1;have HW3:=hi_ W3;have HC2:=hi_ C2;have HC3:=hi_ (show dW_ m (cM_ n m.length m' c) h from C3);have HTk:=hi_ htk;have hcell':World.cell? wr ⟨g,i,none⟩=some (.int .i64 (handle T.bs T.st (pos c))):=hcell;have hii:(i:Int)<(ks.length:Int):=by omega
   have hszr:=HFr.o.size;have HMore:=hi_ hmore;clear Q1 W3 C2 C3 htk htl hcell hhd hLow' hAA' hkh' hlow' hln2 hmem hkh hk0 hkB hlowc hck hmore hcm hcells;go_wp2_with fail
   refine HQ1.o.mono ?_;rintro e w6 ⟨T2,pos2,rfl,hf6,hgo6,ht6,hp6,hs6⟩;have HF6:=hi_ (HFr.o.trans hf6 (fun b hb=>HGo.o.foot b hb));have HGo6:=hi_ (HGo.o.trans hszr hgo6);have HO6:=hi_ (show e2_ T pos w2.heap.size w6 (.slice (some ⟨g,0,none⟩) ks.length kcap) ks from ak_ HO.o hf6 (fun g' hg'=>HN.o g' hg'));have HN6:Hd (∀g',(Value.slice (some ⟨g,0,none⟩) ks.length kcap).ownBlock=some g'->¬T2.foot g'):=hi_ (fun g' hg' hf=>by
    have hlt':=(World.ownsRow.lt HO.o g' hg').2
    rcases hgo6.foot g' hf with h1|h1
    ·exact HN.o g' hg' h1
    omega)
   have hmore':=HMore.o;have hkk:nd (copyT n m' c true) m.length=nd m' m.length:=HC2.o.old _ hmore';have Q2:=link_ T2 (copyT n m' c true) pos2 m'.length m.length (nd (copyT n m' c true) m.length).kids.length w6 ht6
    (by unfold has;rw[HC2.o.root.2.1];rfl) (by unfold has;rw[hkk,HC.o.root.2.1];rfl) HC2.o.root.1 (nl_) (by omega) HW3.o
   have haft:cQ_ (copyT n m' c true) m.length (nd (copyT n m' c true) m.length).kids.length=none:=by unfold cQ_;simp
   have hpm:pos2 m.length=T.next:=by rw[hp6 _ hmore'];exact HPn.o
   have hhp:hd T2 pos2 m.length=handle T.bs T.st T.next:=by unfold hd;rw[HGo6.o.bs,HGo6.o.st,hpm]
   have hhq:hd T2 pos2 m'.length=hd T' pos2 m'.length:=by unfold hd;rw[hgo6.bs,hgo6.st]
   rw[HGo6.o.tb,haft,hhp,hhq]at Q2;have HQ2:=hi_ (show Calls _ _ #[_,_,_,.int .i64 0] _ _ from Q2);have HP6:Hd (∀j,j<m.length->pos2 j=pos j):=hi_ (fun j hj=>by rw[hp6 j (by omega)];exact HPo.o j hj);have HPm:=hi_ hpm;have HS6:=hi_ hs6;clear Q2 hf6 hgo6 ht6 hp6 hs6 hkk haft hpm hhp hhq;go_wp2_with fail
   refine HQ2.o.mono ?_;rintro e w7 ⟨T3,rfl,hf7,hl7,ht7⟩;have HF7:=hi_ (HF6.o.trans hf7 (fun b hb=>HGo6.o.foot b (Or.inr (Or.inl hb))));have HGo7:=hi_ (HGo6.o.trans HF6.o.size (Goes.of_like hl7));have HO7:=hi_ (show e2_ T pos w2.heap.size w7 (.slice (some ⟨g,0,none⟩) ks.length kcap) ks from ak_ HO6.o hf7 (fun g' hg' hk=>HN6.o g' hg' (Or.inr (Or.inl hk))));have HN7:Hd (∀g',(Value.slice (some ⟨g,0,none⟩) ks.length kcap).ownBlock=some g'->¬T3.foot g'):=hi_ (fun g' hg' hf=>HN6.o g' hg' (by
    rcases hf with h1|h1|h1
    ·exact Or.inl (h1.trans hl7.tb)
    ·exact Or.inr (Or.inl (h1.trans hl7.g))
    exact Or.inr (Or.inr (by rw[<-hl7.freeV];exact h1))))
   have HT7:=hi_ (show ag_ w7 T3 (cM_ n m.length m' c) pos2 from ht7);have HS7:Hd (T3.slots.length<=(cM_ n m.length m' c).length):=hi_ (by rw[ed_,hl7.len];exact HS6.o);clear hf7 hl7 ht7;go_wp2_with fail
   go_roundw
   case rel=>exact⟨i+1,T3,_,pos2,by go_num,by omega,hi_ HTk.o.symm,HT7,HC3,HGo7,HF7,HP6,HPm,HS7,HO7,HN7⟩
   simp[Go.RowKit.intOf];omega
  have hie:i=ks.length:=by omega
  subst hie;have hnot:¬((ks.length:Nat):Int)<((ks.length:Nat):Int):=by omega
  have hmq:=HMq.o;rw[List.take_length]at hmq;have HMq2:=hi_ hmq;clear hmq;go_wp2_with fail
  go_ret
  have HE:T.next=pos' m.length:=HPn.o.symm;refine⟨T',pos',aE_ ?_,HFr.o,HGo.o,?_,HPo.o,?_⟩
  ·show handle T.bs T.st T.next=handle T.bs T.st (pos' m.length)
   rw[HE]
  ·rw[HCT2.o,<-HMq2.o];exact HTr.o
  rw[HCT2.o,<-HMq2.o];exact HSl.o
theorem gM_{B:Nat}{m m':aa_}(hL:Low B m)(hk:∀i,i<B->nd m' i=nd m i):∀(n h:Nat),h<B->eg_ m' n h=eg_ m n h
 |0,_,_=>rfl
 |n+1,h,hh=>by
  rw[eg_,eg_,hk h hh];exact congrArg (h :: ·) (cT_ fun c hc=>gM_ hL hk n c (hL h hh c hc))
theorem iB_:∀(n:Nat) {m:aa_} (W:WF m) {h:Nat},h<m.length->0<h->G.low m n h->(copyT n m h true).length=m.length+(eg_ m n h).length
 |0,m,W,h,hh,h0,hl=>hl.elim
 |n+1,m,W,h,hh,h0,hl=>by
  have e1:copyT (n+1) m h true=(nd m h).kids.foldl (cM_ n m.length) (m++[bare (nd m h)]):=by rw[copyT,if_pos rfl];rfl
  have hf:∀(l:List Nat) (m':aa_),(∀c∈l,c∈(nd m h).kids)->dW_ m m' h->(l.foldl (cM_ n m.length) m').length=m'.length+(l.flatMap (eg_ m n)).length:=by
   intro l
   induction l with
   |nil=>intro m' _ _;simp
   |cons c t ih=>
    intro m' hc C;have hck:=hc c (by simp);obtain⟨hcm,hcp⟩:=W.kid h c hck;have hc0:0<c:=by
     rcases Nat.eq_zero_or_pos c with e|e
     ·subst e;rw[W.doc.2.2.1]at hcp;cases hcp
     exact e
    have hmore:=C.more;obtain⟨C2,W3,C3⟩:=WF.copy_step n W C hck (hl c hck);have h1:=iB_ n C.wf (h:=c) (by omega) hc0 (dG_ W.low_all C.old hcm (hl c hck));rw[gM_ W.low_all C.old n c hcm]at h1;have h3:=ih (cM_ n m.length m' c) (fun d hd=>hc d (by simp[hd])) C3;rw[List.foldl_cons,h3,ed_,h1,List.flatMap_cons,List.length_append];omega
  rw[e1,hf _ _ (fun c hc=>hc) (WF.copied_one W hh h0),eg_];simp;omega
theorem gm_{m:aa_}(W:WF m){h:Nat}(hh:has m h=true)(h0:0<h)(deep:Bool):(copyT 128 m h deep).length<=2*m.length+1:=by
 cases deep with
 |false=>
  rw[show(128:Nat)=127+1 from rfl,copyT,if_neg (by simp)];simp;omega
 |true=>
  have h1:=iB_ 128 W (aR_ hh) h0 (WF.low W 128 h (by have:=W.depth_pos h;omega));have h2:=hh_ W hh;unfold walk at h2;omega
theorem nd_:∀n,ny_ n
 |0=>fun B T m pos h deep w _ _ _ _ _ _ _ hlo=>hlo.elim
 |n+1=>js_ n (nd_ n)
theorem len_(T:am_)(w:World)(hT:al_ w T):Calls Tryz.prog 88 #[.pointer (some ⟨T.tb,0,none⟩)] w fun e w'=>e=.returned (.int .i64 T.live)/\Below w.heap.size w w':=by
 obtain⟨hc,hf⟩:=ae_ hT.blk;have c4:w.cell? ⟨T.tb,4,none⟩=some (.int .i64 T.live):=hc 4;clear hc hf hT
 go_enter Tryz.func88,Tryz.ntmps88
 go_wp2_with fail
 go_ret
 exact⟨rfl,br_⟩
theorem copy_(T:am_)(m:aa_)(pos:Nat->Nat)(h:Nat)(deep:Bool)(w:World)(hT:ag_ w T m pos)(hh:has m h=true)(hlm:m.length<=5000)(hA:∀i,i<m.length->(nd m i).attrs.length<=100000)(hsl:T.slots.length<=m.length) :
  Calls Tryz.prog 130 #[.pointer (some ⟨T.tb,0,none⟩),.int .i64 (hd T pos h),.bool deep] w fun e w'=>∃T' pos',e=.returned (.tuple #[.int .i64 (if (nd m h).kind=1 then 0 else hd T pos' m.length),.int .i64 ((aU_ m h deep).1:Nat)])/\H.Frame T.foot w w'/\Goes w T T'/\ag_ w' T' (aU_ m h deep).2 pos'/\(∀i,i<m.length->pos' i=pos i)/\T'.slots.length<=(aU_ m h deep).2.length:=by
 have hF:=hT.fits;have hfew:=hT.mem.few;have hbj:=bF_ hfew hF hh;have hpj:=aP_ (T:=T) (pos:=pos) h;have Q1:=hi_ (at_ T (hd T pos h) w hT.mem (by omega) (by omega));rw[bM_ hfew hF hh 1]at Q1;have HK:=hi_ (fun W (hb:Below w.heap.size w W)=>(show W.cell? ⟨T.g,pos h*10+1,none⟩=some (.int .i64 ((nd m h).kind:Nat))from by
  rw[((hT.below hb).cell hh (k:=1) (by omega)).1,<-hF.kind h hh];rfl))
 have HT:=hi_ hT;have hlv:=eL_ hF (by omega);have hlv2:T.live<=(m.length:Int):=by
  have h1:=hF.live;have h2:=List.length_filter_le (has m) (List.range m.length);rw[List.length_range]at h2;omega
 have hwf:=hh_ hF.wf hh;have hk0:(nd m h).kind≠1->0<h:=fun hk=>by
  rcases Nat.eq_zero_or_pos h with e|e
  ·rw[e,hF.wf.doc.2.1]at hk;exact absurd rfl hk
  exact e
 have QC:=hi_ (fun W (hb:Below w.heap.size w W) (h0:0<h)=>nd_ 128 m.length T m pos h deep W (hT.below hb) hh h0 (nl_) (aR_ hh) hF.wf.low_all hA (WF.low hF.wf 128 h (by have:=hF.wf.depth_pos h;omega)) (by have:=gm_ hF.wf hh h0 deep;omega) hsl);have QL:=hi_ (fun W (hb:Below w.heap.size w W)=>len_ T W (hT.below hb).mem);have HC:=hi_ (fun W (hB:Below w.heap.size w W) b1 b2 hb1 hb2 c1 c2=>kj_ T m pos W (hT.below hB) h hh b1 b2 hb1 hb2 c1 c2 (by omega));have QW:=hi_ (fun W=>oL_ T.tb (hd T pos h) W);have HSl:=hi_ hsl;obtain⟨R,hR⟩:∃R,R=aU_ m h deep:=⟨_,rfl⟩;have HRr:Hd (R=if (nd m h).kind=1 then(10,m) else(0,copyT 128 m h deep)):=hi_ hR;rw[<-hR];generalize (nd m h).kind=kd at *;generalize hL:walk m h=L at *;clear hT hF hR hA hsl
 go_enter Tryz.func130,Tryz.ntmps130
 go_wp2_with fail
 refine Q1.o.mono ?_;rintro e w1 ⟨rfl,hb1⟩;have HB1:=hi_ hb1;have k1:=HK.o w1 hb1;clear hb1 Q1
 by_cases hd1:kd=1
 ·have HRs:Hd (R=(10,m)):=hi_ (by rw[HRr.o,if_pos hd1])
  clear hk0;subst hd1;clear HRr;go_wp2_with fail
  refine bodyPost_ret (v:=.tuple #[.int .i64 0,.int .i64 10]) (by simp[results,Tryz.results130,go_sem]) rfl ⟨?_,H.Frame.of HB1.o,T,Goes.refl w T,pos,by rw[HRs.o];exact HT.o.below HB1.o,fun _ _=>rfl,by rw[HRs.o];exact HSl.o⟩;rw[HRs.o];rfl
 have HRs:Hd (R=(0,copyT 128 m h deep)):=hi_ (by rw[HRr.o,if_neg hd1]);have h0:=hk0 hd1;have hd2:((kd:Int)==1)=false:=bn_ (by omega);clear HRr hk0
 cases deep with
 |false=>
  have HB4:=HB1;have wq:IntKind.i64.wrap (T.live+1)=T.live+1:=IntWalk.i64_in _ (by omega);have wc:decide ((20000:Int)<T.live+1)=false:=decide_eq_false (by omega);have wc2:T.live+1<=20000:=by omega
  clear HC QW;go_wp2_with fail
  refine(QL.o _ HB4.o).mono ?_;rintro e w5 ⟨rfl,hb5⟩;have HB5:=bt_ HB4 hb5;have Q6:=hi_ (QC.o w5 HB5.o h0);clear hb5 QL HB4;go_wp2_with fail
  refine Q6.o.mono ?_;rintro e w6 ⟨T',pos',rfl,hf6,hgo6,ht6,hp6,hs6⟩;have HF6:=hi_ ((H.Frame.of (S:=T.foot) HB5.o).trans hf6 (fun b hb=>Or.inl hb));have HGo6:=hi_ ((Goes.refl w T).trans HB5.o.size hgo6);go_wp2_with fail
  refine bodyPost_ret (v:=.tuple #[.int .i64 (hd T pos' m.length),.int .i64 0]) (by simp[results,Tryz.results130,go_sem]) rfl ⟨T',pos',?_,HF6.o,HGo6.o,by rw[HRs.o];exact ht6,hp6,by rw[HRs.o];exact hs6⟩;rw[HRs.o];rfl
 |true=>
  have hLl:(L.length:Int)<=5000:=by omega
  have wq:IntKind.i64.wrap (T.live+(L.length:Int))=T.live+(L.length:Int):=IntWalk.i64_in _ (by omega);have wc:decide ((20000:Int)<T.live+(L.length:Int))=false:=decide_eq_false (by omega);have wc2:T.live+(L.length:Int)<=20000:=by omega
  go_wp2_with fail
  refine(QW.o _).mono ?_;rintro e w2 ⟨rfl,rfl⟩;have hb3:Below w.heap.size w ((w1.alloc (.cells #[.pointer (some ⟨T.tb,0,none⟩)] 37)).alloc (.cells #[.int .i64 (hd T pos h)] 3)):=(HB1.o.alloc HB1.o.size _).alloc (by have:=HB1.o.size;simp;omega) _;have QCc:=hi_ (HC.o _ hb3 w1.heap.size (w1.heap.size+1) (by simp;omega) (by simp) (by simp[go_sem]) (by simp[go_sem]));have HB3:=hi_ hb3;clear hb3 QW HC;generalize (w1.alloc (.cells #[.pointer (some ⟨T.tb,0,none⟩)] 37)).alloc (.cells #[.int .i64 (hd T pos h)] 3)=w3 at *;go_wp2_with fail
  refine QCc.o.mono ?_;rintro e w4 ⟨v,rfl,hown,hb4⟩;obtain⟨ao,cap,hv,_⟩:=hown.form;subst hv;have HB4:=bt_ HB3 hb4;clear hown hb4 QCc HB3 k1;go_wp2_with fail
  refine(QL.o _ HB4.o).mono ?_;rintro e w5 ⟨rfl,hb5⟩;have HB5:=bt_ HB4 hb5;have Q6:=hi_ (QC.o w5 HB5.o h0);clear hb5 QL HB4;go_wp2_with fail
  refine Q6.o.mono ?_;rintro e w6 ⟨T',pos',rfl,hf6,hgo6,ht6,hp6,hs6⟩;have HF6:=hi_ ((H.Frame.of (S:=T.foot) HB5.o).trans hf6 (fun b hb=>Or.inl hb));have HGo6:=hi_ ((Goes.refl w T).trans HB5.o.size hgo6);go_wp2_with fail
  refine bodyPost_ret (v:=.tuple #[.int .i64 (hd T pos' m.length),.int .i64 0]) (by simp[results,Tryz.results130,go_sem]) rfl ⟨T',pos',?_,HF6.o,HGo6.o,by rw[HRs.o];exact ht6,hp6,by rw[HRs.o];exact hs6⟩;rw[HRs.o];rfl
end A
end
section
open Go.RowKit Go.Sort
namespace A
open H G R
theorem make1_(a:BB)(w:World)(ha:a.2.length<=1000000) :
  Calls Tryz.prog 110 #[.agg #[.string ⟨a.1.toArray⟩,.string ⟨a.2.toArray⟩]] w fun e w'=>e=.returned (.bool false)/\Below w.heap.size w w':=by
 have HB:=hi_ ((Below.refl w.heap.size w).alloc (nl_) (.cells #[.string ⟨a.1.toArray⟩,.string ⟨a.2.toArray⟩] 142));have QL:Hd (∀W,Calls Tryz.prog 108 #[.string ⟨a.2.toArray⟩] W fun e w'=>e=.returned (.bool false)/\W=w'):=hi_ (fun W=>by
  have h:=N.long_ a.2 W
  rwa [decide_eq_false (by omega)]at h)
 go_enter Tryz.func110,Tryz.ntmps110
 go_wp2_with fail
 refine(QL.o _).mono ?_;rintro e w2 ⟨rfl,rfl⟩;go_wp2_with fail
 go_ret
 exact⟨rfl,HB.o⟩
theorem fp_(v:Value)(l:List BB)(w:World)(h:aw_ w v l)(hl:l.length<=1000000)(hs:∀a,a∈l->a.2.length<=1000000) :
  Calls Tryz.prog 109 #[v,.func (.func 110) #[] #[]] w fun e w'=>e=.returned (.bool false)/\Below w.heap.size w w':=by
 have Q:=g6_ v l w h hl 110 #[] (enters_of Tryz.func110 (by kernel_rfl) rfl) (fun _=>false) (fun W a ha hb=>(make1_ a W (hs a ha)).mono (fun e w' h=>⟨h.1,hb.trans (h.2.mono hb.size)⟩));have e:hL_ (l.findIdx? (fun _=>false))=-1:=by
  have:l.findIdx? (fun _=>false)=none:=by simp
  rw[this];rfl
 rw[e]at Q;have HQ:=hi_ Q;obtain⟨ao,cap,hv⟩:=aw_.slice h;subst hv;clear Q h
 go_enter Tryz.func109,Tryz.ntmps109
 go_wp2_with fail
 refine HQ.o.mono ?_;rintro e w2 ⟨rfl,hb⟩;go_wp2_with fail
 go_ret
 exact⟨rfl,hb⟩
def nt_(w:World)(T:am_)(m:aa_)(pos:Nat->Nat)(e:Ending)(w':World):Option aa_->Prop
 |none=>e=.returned (.tuple #[.int .i64 0,.int .i64 1])/\Below w.heap.size w w'
 |some m'=>∃T' pos',e=.returned (.tuple #[.int .i64 (hd T pos' m.length),.int .i64 0])/\H.Frame T.foot w w'/\Goes w T T'/\ag_ w' T' m' pos'/\(∀i,i<m.length->pos' i=pos i)/\T'.slots.length<=m'.length
theorem j0_(T:am_)(m:aa_)(pos:Nat->Nat)(kd:Nat)(name data:List UInt8)(av:Value)(l:List BB)(w:World)(hT:ag_ w T m pos)(hlm:m.length<=5000)(hsl:T.slots.length<=m.length)(hk:kd=3\/kd=4)(hdt:data.length<=1000)(hTb:fz_ w) :
  Calls Tryz.prog 58 #[.pointer (some ⟨T.tb,0,none⟩),.int .i64 kd,.string ⟨name.toArray⟩,.string ⟨data.toArray⟩,av] w fun e w'=>nt_ w T m pos e w' (make m kd name data l):=by
 have hF:=hT.fits;have hfew:=hT.mem.few;have HT:=hi_ hT;have hlv:=eL_ hF (by omega);have hff:=eR_ hF hfew;have hlv2:T.live<=(m.length:Int):=by
  have h1:=hF.live;have h2:=List.length_filter_le (has m) (List.range m.length);rw[List.length_range]at h2;omega
 have HFr:=hi_ hF.frees;have hrl:=fQ_ data;obtain⟨x,hx⟩:∃x:G.Node,x=⟨kd,[],[],U.rep data,none,[],false⟩:=⟨_,rfl⟩;have HRs:Hd (make m kd name data l=some (m++[x])):=hi_ (by unfold make;rw[if_neg (by omega),hx]);have HXe:=hi_ hx;have HKx:Hd (2<=x.kind/\x.kind<=4):=hi_ (by rw[hx];dsimp only;omega);have QL:=hi_ (fun W (hb:Below w.heap.size w W)=>len_ T W (hT.below hb).mem);have QR:=hi_ (fun W (hb:Below w.heap.size w W)=>hr_ data W (by omega) (hTb.below hb));have HB1:=hi_ ((Below.refl w.heap.size w).alloc (nl_) (.cells #[.int .i64 kd,.string ⟨#[]⟩,.slice none 0 0,.string ⟨#[]⟩,.int .i64 0,.int .i64 0,.int .i64 0,.int .i64 0,.int .i64 0] 126))
 have HX1:=hi_ (Blk.new w #[.int .i64 kd,.string ⟨#[]⟩,.slice none 0 0,.string ⟨#[]⟩,.int .i64 0,.int .i64 0,.int .i64 0,.int .i64 0,.int .i64 0] 126);have e2:((kd:Int)==2)=false:=bn_ (by omega);have wc:decide ((20000:Int)<=T.live)=false:=decide_eq_false (by omega);have wc2:T.live<20000:=by omega
 obtain⟨R,hR⟩:∃R,R=make m kd name data l:=⟨_,rfl⟩;rw[<-hR]at HRs ⊢;clear hT hF hR hx;generalize U.rep data=rd at *
 rcases hk with hk|hk
 all_goals (
  subst hk
  go_enter Tryz.func58,Tryz.ntmps58
  go_wp2_with fail
  generalize w.alloc (.cells #[.int .i64 _,.string ⟨#[]⟩,.slice none 0 0,.string ⟨#[]⟩,.int .i64 0,.int .i64 0,.int .i64 0,.int .i64 0,.int .i64 0] 126)=w1 at *;refine(QR.o w1 HB1.o).mono ?_;rintro e w2 ⟨rfl,hb2⟩;have HX2:=hi_ (HX1.o.below hb2);have HB2:=bt_ HB1 hb2;obtain⟨⟨k0,k1,k2,k3,k4,k5,k6,k7,k8⟩,⟨f0,f1,f2,f3,f4,f5,f6,f7,f8⟩⟩:=b2_ HX2.o;have hlX:=HX2.o.lt;have HBt:=hi_ (HB2.o.setCell (p:=⟨w.heap.size,3,none⟩) (nl_) (.string ⟨rd.toArray⟩));obtain⟨ao,acap,hao,hac⟩:∃ao acap,ao=(none:Option Addr)/\acap=0:=⟨_,_,rfl,rfl⟩
  have HXt:Hd (Blk w.heap.size #[.int .i64 x.kind,.string ⟨x.name.toArray⟩,.slice ao x.attrs.length acap,.string ⟨x.data.toArray⟩,.int .i64 0,.int .i64 0,.int .i64 0,.int .i64 0,.int .i64 0] 126 (w2.setCell ⟨w.heap.size,3,none⟩ (.string ⟨rd.toArray⟩))):=hi_ (by
   rw[HXe.o,hao,hac];have h9:=HX2.o.set 3 (.string ⟨rd.toArray⟩);simp only[List.setIfInBounds_toArray,List.set_cons_zero,List.set_cons_succ]at h9;exact h9)
  have HAtt:Hd (aw_ (w2.setCell ⟨w.heap.size,3,none⟩ (.string ⟨rd.toArray⟩)) (.slice ao x.attrs.length acap) x.attrs):=hi_ (by
   rw[HXe.o,hao,hac];exact⟨rfl,Or.inl ⟨rfl,rfl⟩⟩)
  have hxa:x.attrs.length<=64:=by rw[HXe.o];simp
  have hxd:x.data.length<=3000:=by rw[HXe.o];dsimp only;omega
  have wa:decide ((64:Int)<(x.attrs.length:Int))=false:=decide_eq_false (by omega);have wa2:(x.attrs.length:Int)<=64:=by omega
  have HSh:Hd (∀a,a∈x.attrs->a.2.length<=1000000):=hi_ (by rw[HXe.o];intro a ha;cases ha);clear hb2 HX1 HB1 HX2 QR hao hac;go_upto_region 16 with fail
  clear k0 k1 k2 k3 k4 k5 k6 k7 k8 f0 f1 f2 f3 f4 f5 f6 f7 f8 hlX;generalize World.setCell w2 ⟨w.heap.size,3,none⟩ (.string ⟨rd.toArray⟩)=WX at *;obtain⟨⟨a0,a1,a2,a3,a4,a5,a6,a7,a8⟩,_⟩:=b2_ HXt.o;have hlA:=HXt.o.lt;have HXl:=hi_ (fun W (hb:Below WX.heap.size WX W)=>b2_ (HXt.o.below hb));have hlA2:=hi_ hlA;have QL2:=hi_ (QL.o WX HBt.o);go_wp2_with fail
  refine QL2.o.mono ?_;rintro e w5 ⟨rfl,hb5⟩;obtain⟨⟨b0,b1,b2,b3,b4,b5,b6,b7,b8⟩,_⟩:=HXl.o w5 hb5;have hlB:=Nat.lt_of_lt_of_le hlA2.out hb5.size;have QLo:Hd (Calls Tryz.prog 108 #[.string ⟨x.data.toArray⟩] w5 fun e w'=>e=.returned (.bool false)/\w5=w'):=hi_ (by
   have h:=N.long_ x.data w5
   rwa [decide_eq_false (by omega)]at h)
  have QCo:=hi_ (fp_ (.slice ao x.attrs.length acap) x.attrs w5 (own_below HAtt.o hb5) (by omega) HSh.o);have HB5:=hi_ hb5;clear a0 a1 a2 a3 a4 a5 a6 a7 a8 hlA QL2 hb5;go_wp2_with fail
  refine QLo.o.mono ?_;rintro e w5' ⟨rfl,rfl⟩;clear QLo;go_wp2_with fail
  refine QCo.o.mono ?_;rintro e w6 ⟨rfl,hb6⟩;have HB6:=bt_ HB5 hb6;obtain⟨⟨d0,d1,d2,d3,d4,d5,d6,d7,d8⟩,_⟩:=HXl.o w6 HB6.o;have hlC:=Nat.lt_of_lt_of_le hlA2.out HB6.o.size;have D0:=lc_ d0 hlC;have D1:=lc_ d1 hlC;have D2:=lc_ d2 hlC;have D3:=lc_ d3 hlC;have D4:=lc_ d4 hlC;have D5:=lc_ d5 hlC;have D6:=lc_ d6 hlC;have D7:=lc_ d7 hlC;have D8:=lc_ d8 hlC;clear b0 b1 b2 b3 b4 b5 b6 b7 b8 hlB QCo hb6;go_wp2_with fail
  refine aS_ 4 (by kernel_rfl) (by kernel_rfl) ?_;simp only[List.take_succ_cons,List.take_zero,List.drop_succ_cons,List.drop_zero];repeat (go_big_quiet_step (fail))
  refine wq_ (fun dq=>?_);have HB7:=hi_ (HBt.o.trans ((HB6.o.trans (dq.h.mono HB6.o.size)).mono HBt.o.size));have HAt7:=hi_ (own_below (own_below HAtt.o HB6.o) dq.h);clear D0 D1 D2 D3 D4 D5 D6 D7 D8 d0 d1 d2 d3 d4 d5 d6 d7 d8 hlC HXl HB5 HB6;generalize dq.w=w4 at *;clear dq;have hTv:=(HT.o.below HB7.o).mem.v;have QA:=hi_ (add_ T (.slice (some ⟨T.g,0,none⟩) T.slots.length T.cap) x (.slice ao x.attrs.length acap) w4 hTv HFr.o HAt7.o (by omega) hlv hff);unfold fX_ at QA;clear hTv;go_wp2_with fail
  refine QA.o.mono ?_;rintro e w8 ⟨g,cap,V',rfl,hf5,hm5,hg5,hv5⟩;have HAd:=hi_ (fa_ T (x:=x) (av:=.slice ao x.attrs.length acap) (g:=g) (cap:=cap) (V:=V') HFr.o);have HF5:=hi_ ((H.Frame.of (S:=T.foot) HB7.o).trans hf5 (fun b hb=>Or.inl (hA_ hb)));have hsz4:=HB7.o.size;have HGo4:=hi_ (gd_ (w:=w4) (r:=aL_ x (.slice ao x.attrs.length acap)) (cap:=cap) (show g=T.g\/w4.heap.size<=g from hg5.imp (fun e=>by have e:some T.g=some g:=e;injection e with e;exact e.symm) (fun e=>e)) hv5);have HGo5:=hi_ ((Goes.refl w T).trans hsz4 HGo4.o);have hFx:=HT.o.fits.add (x:=x) (by rw[HXe.o]) (by rw[HXe.o]) HKx.o (by rw[HXe.o]) HAd.o;have HL5:=hi_ (hz_ T (aL_ x (.slice ao x.attrs.length acap)) g cap V');go_wp2_with fail
  have hval:handle T.bs T.st T.next=hd T (i6_ m pos T.next) m.length:=by unfold hd;rw[c8_]
  refine bodyPost_ret (v:=.tuple #[.int .i64 (handle T.bs T.st T.next),.int .i64 0]) (by simp[results,Tryz.results58,go_sem]) rfl ?_;rw[HRs.o];exact⟨_,i6_ m pos T.next,by rw[hval],HF5.o,HGo5.o,⟨hm5,hFx⟩,fun i hi=>b8_ hi,by have:=HL5.o;simp;omega⟩)
end A
end
section
open Go.RowKit Go.Shelf
namespace A
open H G
theorem drop2_(T:am_)(m:aa_)(pos:Nat->Nat)(h:Nat)(w:World)(hT:ag_ w T m pos)(hh:has m h=true)(hlm:m.length<=1000000) :
  Calls Tryz.prog 72 #[.pointer (some ⟨T.tb,0,none⟩),.int .i64 (hd T pos h)] w fun e w'=>∃T',e=.returned (.int .i64 ((cA_ m h).1:Nat))/\H.Frame T.foot w w'/\Goes w T T'/\ag_ w' T' (cA_ m h).2 pos/\T'.slots.length=T.slots.length:=by
 have hF:=hT.fits;have hfew:=hT.mem.few;have hpl:=hF.lt h hh;have hbj:=bF_ hfew hF hh;have hpj:=aP_ (T:=T) (pos:=pos) h;have Q1:=hi_ (at_ T (hd T pos h) w hT.mem (by omega) (by omega));rw[bM_ hfew hF hh 1]at Q1;have HK:=hi_ (fun W (hb:Below w.heap.size w W)=>(show W.cell? ⟨T.g,pos h*10+1,none⟩=some (.int .i64 ((nd m h).kind:Nat))/\W.cell? ⟨T.g,pos h*10+1+4,none⟩=some (.int .i64 (hdO T pos (nd m h).parent))from by
  refine⟨?_,?_⟩
  ·rw[((hT.below hb).cell hh (k:=1) (by omega)).1,<-hF.kind h hh];rfl
  rw[((hT.below hb).cell hh (k:=5) (by omega)).1,<-hF.parent h hh];rfl))
 have hk0:((nd m h).kind=1)↔h=0:=by
  constructor
  ·intro e
   rcases Nat.eq_zero_or_pos h with h0|h0
   ·exact h0
   have:=(hF.wf.kinds h (aR_ hh) h0).1;omega
  intro e;rw[e];exact hF.wf.doc.2.1
 have HT:=hi_ hT;have hlv:=eL_ hF hlm;have hff:=eR_ hF hfew;have hwf:=hh_ hF.wf hh;have hnd:=WF.walk_nodup hF.wf h;have hwh:=WF.walk_has hF.wf h hh;obtain⟨R,hR⟩:∃R,R=cA_ m h:=⟨_,rfl⟩;have HRr:Hd (R=if (nd m h).parent≠none\/(nd m h).kind=1 then(7,m) else(0,drop m h)):=hi_ hR;rw[<-hR];have HFd:=hi_ (fun(h1:(nd m h).parent=none) (h2:h≠0) T' D=>hF.drop (T':=T') hh h1 h2 hnd hwh D);have HC:=hi_ (fun W (hB:Below w.heap.size w W) b1 b2 hb1 hb2 c1 c2=>kj_ T m pos W (hT.below hB) h hh b1 b2 hb1 hb2 c1 c2 (by omega));have HPos:Hd (∀i,i∈walk m h->pos i<T.slots.length/\(T.sl (pos i)).used=true):=hi_ (fun i hi=>⟨hF.lt i (hwh i hi),hF.used i (hwh i hi)⟩);have HNd:Hd (((walk m h).map pos).Nodup):=hi_ (by
  rw[List.nodup_iff_pairwise_ne]at hnd ⊢;rw[List.pairwise_map];exact List.Pairwise.imp_of_mem (fun ha hb hne e=>hne (hF.inj _ _ (hwh _ ha) (hwh _ hb) e)) hnd)
 generalize (nd m h).kind=kd at *;generalize (nd m h).parent=par at *;generalize hL:walk m h=L at *;have hLl:L.length<=1000000:=by omega
 clear hT hF hR hnd hwh hwf
 go_enter Tryz.func72,Tryz.ntmps72
 go_wp2_with fail
 refine Q1.o.mono ?_;rintro e w1 ⟨rfl,hb1⟩;have HB1:=hi_ hb1;obtain⟨k1,k4⟩:=HK.o w1 hb1;clear hb1 Q1
 cases par with
 |some p=>
  have hp1:¬hdO T pos (some p)=0:=by have:=aP_ (T:=T) (pos:=pos) p;show ¬hd T pos p=0;omega
  have hp2:(hdO T pos (some p) != 0)=true:=bne_iff_ne.2 hp1;have HRs:Hd (R=(7,m)):=hi_ (by rw[HRr.o,if_pos (Or.inl (by simp))]);clear HRr;go_wp2_with fail
  go_ret
  exact⟨T,by rw[HRs.o];rfl,H.Frame.of HB1.o,Goes.refl w T,by rw[HRs.o];exact HT.o.below HB1.o,rfl⟩
 |none=>
  have hp1:hdO T pos none=0:=rfl;rw[hp1]at k4
  by_cases hd1:kd=1
  ·have HRs:Hd (R=(7,m)):=hi_ (by rw[HRr.o,if_pos (Or.inr hd1)])
   clear hk0;subst hd1;clear HRr;go_wp2_with fail
   go_ret
   exact⟨T,by rw[HRs.o];rfl,H.Frame.of HB1.o,Goes.refl w T,by rw[HRs.o];exact HT.o.below HB1.o,rfl⟩
  have HRs:Hd (R=(0,drop m h)):=hi_ (by rw[HRr.o,if_neg (by simp[hd1])]);have h0:h≠0:=fun e=>hd1 (hk0.2 e);have hd2:((kd:Int)==1)=false:=bn_ (by omega);clear HRr;have QW:=hi_ (fun W=>oL_ T.tb (hd T pos h) W);clear hk0 hd1;go_wp2_with fail
  refine(QW.o _).mono ?_;rintro e w2 ⟨rfl,rfl⟩;have hb3:Below w.heap.size w ((w1.alloc (.cells #[.pointer (some ⟨T.tb,0,none⟩)] 37)).alloc (.cells #[.int .i64 (hd T pos h)] 3)):=(HB1.o.alloc HB1.o.size _).alloc (by have:=HB1.o.size;simp;omega) _;have QC:=hi_ (HC.o _ hb3 w1.heap.size (w1.heap.size+1) (by simp;omega) (by simp) (by simp[go_sem]) (by simp[go_sem]));have HB3:=hi_ hb3;clear hb3 QW HC;generalize (w1.alloc (.cells #[.pointer (some ⟨T.tb,0,none⟩)] 37)).alloc (.cells #[.int .i64 (hd T pos h)] 3)=w3 at *;go_wp2_with fail
  refine QC.o.mono ?_;rintro e w4 ⟨v,rfl,hown,hb4⟩;obtain⟨ao,cap,hv,_⟩:=hown.form;subst hv;have HO4:=hi_ hown;have HB4:=bt_ HB3 hb4;have HT4:=hi_ (HT.o.below HB4.o).mem;have HNf:Hd (∀g,(Value.slice ao L.length cap).ownBlock=some g->¬T.foot g):=hi_ (fun g hg hf=>by
   have h1:=(World.ownsRow.lt hown g hg).1;have h2:=HB3.o.size
   rcases hf with e|e|e
   ·have:=HT.o.mem.blk.lt;omega
   ·have:=(ad_ HT.o.mem.row).1;omega
   have:=(World.ownsRow.lt HT.o.mem.free g e).2;omega)
  clear hown hb4 QC HB3 k1 k4;go_wp2_with fail
  go_loopw [32] (fun v32 wr=>∃(i:Nat) (T':am_),v32=.int .i64 (i:Nat)/\i<=L.length/\Hd (al_ wr T')/\Hd (Gone T T' ((L.take i).map pos))/\Hd (Goes w T T')/\Hd (H.Frame T.foot w wr)/\Hd (e2_ T pos w3.heap.size wr (.slice ao L.length cap) L)/\Hd (∀g,(Value.slice ao L.length cap).ownBlock=some g->¬T'.foot g))
   (fun v32 _=>L.length-(Go.RowKit.intOf v32).toNat)
  case atStart=>
   exact⟨0,T,rfl,Nat.zero_le _,HT4,hi_ (by rw[List.take_zero];exact Gone.refl T),hi_ (Goes.refl w T),hi_ (H.Frame.of HB4.o),HO4,HNf⟩
  obtain⟨i,T',rfl,hi,HM,HG,HGo,HFr,HO,HN⟩:=hrel
  rcases Nat.lt_or_ge i L.length with hlt|hge
  ·obtain⟨ao',cap',hv,hcells⟩:=HO.o.form
   obtain⟨g,hao,hg,hbg,hcell⟩:=hcells i L[i] (List.getElem?_eq_getElem hlt);injection hv with e1 e2 e3
   subst e1 e3;subst hao;have hmem:L[i]∈L:=List.getElem_mem hlt;have htk:(L.take (i+1)).map pos=(L.take i).map pos++[pos L[i]]:=by
    rw[List.take_add_one,List.getElem?_eq_getElem hlt,List.map_append];rfl
   have hnew:pos L[i]∉(L.take i).map pos:=by
    have h1:=HNd.o;have e0:L=L.take i++L[i] :: L.drop (i+1):=by
     have h2:L.drop i=L[i] :: L.drop (i+1):=List.drop_eq_getElem_cons hlt;rw[<-h2,List.take_append_drop]
    rw[e0,List.map_append,List.map_cons,List.nodup_append]at h1;intro hm;exact h1.2.2 _ hm _ (List.mem_cons_self ..) rfl
   obtain⟨hp1,hp2⟩:=HPos.o _ hmem;have hlen':=HG.o.len;have hus:(T'.sl (pos L[i])).used=true:=by rw[HG.o.sl _ hnew];exact hp2
   have hfr':T'.frees.length=T.frees.length+i:=by rw[HG.o.frees,List.length_append,List.length_map,List.length_take];omega
   have hlv':T'.live=T.live-(i:Nat):=by rw[HG.o.live,List.length_map,List.length_take];congr 2;omega
   have Q5:=nk_ T' (pos L[i]) wr HM.o (by omega) hus (by omega) (by omega);rw[HGo.o.tb,HGo.o.bs,HGo.o.st]at Q5;have HQ5:=hi_ Q5;have HG2:=hi_ (fun V=>(HG.o.step hp1 V));rw[<-htk]at HG2;have htb:=HM.o.blk.lt;rw[HGo.o.tb]at htb;have hii:(i:Int)<(L.length:Int):=by omega
   have hcell':World.cell? wr ⟨g,i,none⟩=some (.int .i64 (handle T.bs T.st (pos L[i]))):=hcell;have hgf:=HN.o g rfl;have HgN:=hi_ hgf;have hsz:=HFr.o.size;generalize pos L[i]=s at *;clear Q5 hmem htk hnew hp2 hus hcells hcell hlen' hfr' hlv' hgf;go_wp2_with fail
   refine HQ5.o.mono ?_;rintro e w5 ⟨gf,fcap,rfl,hf5,hm5,hgf5⟩;have HM5:=hi_ hm5;have HG5:=hi_ (HG2.o (.slice (some ⟨gf,0,none⟩) (T'.frees.length+1) fcap));have hgo:=k4_ (w:=wr) (s:=s) (n:=T'.frees.length+1) (fcap:=fcap) hgf5;have HGo5:=hi_ (HGo.o.trans hsz hgo);have HFr5:=hi_ (HFr.o.trans hf5 (fun b hb=>HGo.o.foot b hb));have HO5:=hi_ (show e2_ T pos w3.heap.size w5 (.slice (some ⟨g,0,none⟩) L.length cap) L from ak_ HO.o hf5 (fun g' hg'=>HN.o g' hg'));have HN5:Hd (∀g',(Value.slice (some ⟨g,0,none⟩) L.length cap).ownBlock=some g'->¬(T'.freed s (.slice (some ⟨gf,0,none⟩) (T'.frees.length+1) fcap)).foot g'):=hi_ (fun g' hg' hf=>by
    have hlt':=(World.ownsRow.lt HO.o g' hg').2
    rcases hgo.foot g' hf with h1|h1
    ·exact HN.o g' hg' h1
    omega)
   clear hm5 hf5 hgf5 hgo;go_wp2_with fail
   go_roundw
   case rel=>exact⟨i+1,_,by go_num,by omega,HM5,HG5,HGo5,HFr5,HO5,HN5⟩
   simp[Go.RowKit.intOf];omega
  have hie:i=L.length:=by omega
  have HD:Hd (jA_ T T' L pos):=hi_ (by
   have h1:=HG.o;rw[hie,List.take_length]at h1;exact h1.dropped HGo.o (fun i hi=>(HPos.o i hi).1))
  subst hie;have hnot:¬((L.length:Nat):Int)<((L.length:Nat):Int):=by omega
  go_wp2_with fail
  go_ret
  refine⟨by rw[HRs.o];rfl,?_⟩;exact⟨HFr.o,T',HGo.o,by rw[HRs.o];exact⟨HM.o,HFd.o trivial h0 T' HD.o⟩,HG.o.len⟩
end A
end
section
namespace G
theorem out_len(m:aa_)(h:Nat):(out m h).length=m.length:=by
 unfold out
 split
 ·rfl
 exact cK_ _ _ _
theorem jI_{m:aa_}(W:WF m)(lim:Option Nat)(o:Op):(step lim m o).2.2.length<=2*m.length+1:=by
 have h0:m.length<=2*m.length+1:=by omega
 have hp:=W.doc.1;unfold step
 split
 ·cases hmk:make m (2+o.kind % 10) o.s o.t o.al with
  |none=>exact h0
  |some m'=>
   dsimp only;unfold make at hmk
   split at hmk
   ·split at hmk
    ·injection hmk with hmk
     subst hmk
     simp;omega
    cases hmk
   injection hmk with hmk
   subst hmk
   simp;omega
 split
 ·split
  ·unfold insert
   split
   ·exact h0
   split
   ·exact h0
   show(put _ _ _ _).length<=_;rw[bw_,out_len];exact h0
  exact h0
 split
 ·exact h0
 rename_i hh
 have hh:has m (o.at_ m)=true:=by simpa using hh
 split
 ·unfold bd_
  split
  ·exact h0
  split
  ·exact h0
  show(cut _ _ _).length<=_;rw[cK_];exact h0
 split
 ·unfold az_
  split
  ·exact h0
  split
  ·exact h0
  split
  ·show(upd _ _ _).length<=_
   rw[cV_];exact h0
  split
  ·exact h0
  show(upd _ _ _).length<=_;rw[cV_];exact h0
 split
 ·unfold ax_
  split
  ·exact h0
  split
  ·exact h0
  show(upd _ _ _).length<=_;rw[cV_];exact h0
 split
 ·unfold replace
  split
  ·exact h0
  split
  ·exact h0
  show(bQ_ _ _ _).length<=_;unfold bQ_;rw[cV_];exact h0
 split
 ·unfold aU_
  split
  ·exact h0
  rename_i hk
  rcases Nat.eq_zero_or_pos (o.at_ m)with e|e
  ·rw[e]at hk;exact absurd W.doc.2.1 hk
  exact A.gm_ W hh e _
 unfold cA_
 split
 ·exact h0
 show(drop _ _).length<=_;rw[dd_];exact h0
end G
end
section
open Go.RowKit Go.Sort
namespace A
open H G R
def hK_(a:BB):BB:=(a.1,U.rep a.2)
theorem my_:(Tryz.prog.info? 142).map (fun i=>(i.zero,i.size,i.bytes))=some (some (.agg #[.string ⟨#[]⟩,.string ⟨#[]⟩]),2,32):=by kernel_rfl
theorem Blk.node2{w:World}{A:Nat}{a b c d e f g h i:Value}{t:TypeId}(k:Blk A #[a,b,c,d,e,f,g,h,i] t w)(c':Value):Blk A #[a,b,c',d,e,f,g,h,i] t (w.setCell ⟨A,2,none⟩ c'):=by
 have h9:=k.set 2 c';simp only[List.setIfInBounds_toArray,List.set_cons_zero,List.set_cons_succ]at h9;exact h9
theorem Blk.node1{w:World}{A:Nat}{a b c d e f g h i:Value}{t:TypeId}(k:Blk A #[a,b,c,d,e,f,g,h,i] t w)(b':Value):Blk A #[a,b',c,d,e,f,g,h,i] t (w.setCell ⟨A,1,none⟩ b'):=by
 have h9:=k.set 1 b';simp only[List.setIfInBounds_toArray,List.set_cons_zero,List.set_cons_succ]at h9;exact h9
theorem n2_(T:am_)(m:aa_)(pos:Nat->Nat)(name data:List UInt8)(av:Value)(l:List BB)(w:World)(hT:ag_ w T m pos)(hlm:m.length<=5000)(hsl:T.slots.length<=m.length)(hnm:name.length<=100000)(hav:aw_ w av l)(hll:l.length<=60)(hls:∀a,a∈l->a.1.length<=1000/\a.2.length<=1000)(hTb:fz_ w) :
  Calls Tryz.prog 58 #[.pointer (some ⟨T.tb,0,none⟩),.int .i64 2,.string ⟨name.toArray⟩,.string ⟨data.toArray⟩,av] w fun e w'=>nt_ w T m pos e w' (make m 2 name data l):=by
 have hF:=hT.fits;have hfew:=hT.mem.few;have HT:=hi_ hT;have hlv:=eL_ hF (by omega);have hff:=eR_ hF hfew;have hlv2:T.live<=(m.length:Int):=by
  have h1:=hF.live;have h2:=List.length_filter_le (has m) (List.range m.length);rw[List.length_range]at h2;omega
 have HFr:=hi_ hF.frees;obtain⟨vo,vcap,hv⟩:=aw_.slice hav;subst hv;have HAv:=hi_ hav;obtain⟨R,hR⟩:∃R,R=make m 2 name data l:=⟨_,rfl⟩;have HRr:Hd (R=if dc_ name && aW_ l []then some (m++[⟨2,name,l.map hK_,[],none,[],false⟩])else none):=hi_ (by rw[hR];unfold make;rw[if_pos rfl];rfl);rw[<-hR];have QL:=hi_ (fun W (hb:Below w.heap.size w W)=>len_ T W (hT.below hb).mem);have QE:=hi_ (fun W (hb:Below w.heap.size w W)=>N.elementName_ name W (by omega) (hTb.below hb));have QT:=hi_ (fun W (hb:Below w.heap.size w W)=>attrs_ (.slice vo l.length vcap) l W (own_below hav hb) (by omega) (fun a ha=>by have:=hls a ha;omega) (hTb.below hb));have QR:=hi_ (fun s (hs:s.length<=1000) W (hb:Below w.heap.size w W)=>hr_ s W (by omega) (hTb.below hb))
 have HB1:=hi_ ((Below.refl w.heap.size w).alloc (nl_) (.cells #[.int .i64 2,.string ⟨#[]⟩,.slice none 0 0,.string ⟨#[]⟩,.int .i64 0,.int .i64 0,.int .i64 0,.int .i64 0,.int .i64 0] 126));have HX1:=hi_ (Blk.new w #[.int .i64 2,.string ⟨#[]⟩,.slice none 0 0,.string ⟨#[]⟩,.int .i64 0,.int .i64 0,.int .i64 0,.int .i64 0,.int .i64 0] 126);have wc:decide ((20000:Int)<=T.live)=false:=decide_eq_false (by omega);have wc2:T.live<20000:=by omega
 have HLs:=hi_ hls;clear hT hF hR hav hls
 go_enter Tryz.func58,Tryz.ntmps58
 go_wp2_with fail
 generalize w.alloc (.cells #[.int .i64 2,.string ⟨#[]⟩,.slice none 0 0,.string ⟨#[]⟩,.int .i64 0,.int .i64 0,.int .i64 0,.int .i64 0,.int .i64 0] 126)=w1 at *;refine(QE.o w1 HB1.o).mono ?_;rintro e w2 ⟨rfl,hb2⟩;have HB2:=bt_ HB1 hb2;have HX2:=hi_ (HX1.o.below hb2);clear hb2 QE HB1 HX1
 cases he:dc_ name with
 |false=>
  have HRs:Hd (R=none):=hi_ (by rw[HRr.o,he];rfl);clear he HRr;go_wp2_with fail
  refine bodyPost_ret (v:=.tuple #[.int .i64 0,.int .i64 1]) (by simp[results,Tryz.results58,go_sem]) rfl ?_;rw[HRs.o];exact⟨rfl,HB2.o⟩
 |true=>
  have HE:=hi_ he;clear he;go_wp2_with fail
  refine(QT.o w2 HB2.o).mono ?_;rintro e w3 ⟨rfl,hb3⟩;have HB3:=bt_ HB2 hb3;have HX3:=hi_ (HX2.o.below hb3);clear hb3 QT HB2 HX2
  cases ha:aW_ l [] with
  |false=>
   have HRs:Hd (R=none):=hi_ (by rw[HRr.o,HE.o,ha];rfl);clear ha HRr;go_wp2_with fail
   refine bodyPost_ret (v:=.tuple #[.int .i64 0,.int .i64 1]) (by simp[results,Tryz.results58,go_sem]) rfl ?_;rw[HRs.o];exact⟨rfl,HB3.o⟩
  |true=>
   obtain⟨x,hx⟩:∃x:G.Node,x=⟨2,name,l.map hK_,[],none,[],false⟩:=⟨_,rfl⟩;have HXe:=hi_ hx;have HRs:Hd (R=some (m++[x])):=hi_ (by rw[HRr.o,HE.o,ha,hx];rfl);have HKx:Hd (2<=x.kind/\x.kind<=4):=hi_ (by rw[hx];dsimp only;omega);clear ha HRr HE hx;obtain⟨⟨k0,k1,k2,k3,k4,k5,k6,k7,k8⟩,⟨f0,f1,f2,f3,f4,f5,f6,f7,f8⟩⟩:=b2_ HX3.o;have hlX:=HX3.o.lt;have HX4:=hi_ (Blk.node1 HX3.o (.string ⟨name.toArray⟩));have HB4:=hi_ (HB3.o.setCell (p:=⟨w.heap.size,1,none⟩) (nl_) (.string ⟨name.toArray⟩));clear HX3 HB3;go_wp2_with fail
   clear k0 k1 k2 k3 k4 k5 k6 k7 k8 f0 f1 f2 f3 f4 f5 f6 f7 f8 hlX;generalize World.setCell w3 ⟨w.heap.size,1,none⟩ (.string ⟨name.toArray⟩)=w4 at *
   go_loopw [32] (fun v32 wr=>∃(i:Nat) (bo:Option Addr) (bcap:Nat),v32=.int .i64 (i:Nat)/\i<=l.length/\Hd (Below w.heap.size w wr)/\Hd (Blk w.heap.size #[.int .i64 2,.string ⟨name.toArray⟩,.slice bo i bcap,.string ⟨#[]⟩,.int .i64 0,.int .i64 0,.int .i64 0,.int .i64 0,.int .i64 0] 126 wr)/\Hd (wr.ownsRow w.heap.size 142 2 (.slice bo i bcap) i (((l.take i).map hK_).flatMap aj_)))
    (fun v32 _=>l.length-(Go.RowKit.intOf v32).toNat)
   case atStart=>
    exact⟨0,none,0,rfl,Nat.zero_le _,HB4,HX4,hi_ ⟨rfl,Or.inl ⟨rfl,rfl⟩⟩⟩
   obtain⟨i,bo,bcap,rfl,hi,HB,HX,HO⟩:=hrel
   rcases Nat.lt_or_ge i l.length with hlt|hge
   ·obtain⟨g0,cap',hv,hgl⟩:=((HAv.o).form).resolve_left (fun h=>by have:=h.2;rw[this]at hlt;simp at hlt)
    injection hv with e1 _ e3
    subst e1 e3;have hA2:aw_ wr (.slice (some ⟨g0,0,none⟩) l.length vcap) l:=own_below HAv.o HB.o;have hc0:=(ab_.cell ar_ hA2 hlt (k:=0) (by omega)).1;have hc1:=(ab_.cell ar_ hA2 hlt (k:=1) (by omega)).1;have HTk:Hd (((l.take (i+1)).map hK_).flatMap aj_=((l.take i).map hK_).flatMap aj_++aj_ (hK_ l[i])):=hi_ (by
     rw[List.take_add_one,List.getElem?_eq_getElem hlt,List.map_append,List.flatMap_append];simp)
    have hsh:=HLs.o l[i] (List.getElem_mem hlt);generalize l[i]=a at *;obtain⟨nm,vl⟩:=a;have k0:wr.cell? ⟨g0,i*2,none⟩=some (.string ⟨nm.toArray⟩):=hc0;have k1:wr.cell? ⟨g0,i*2+1,none⟩=some (.string ⟨vl.toArray⟩):=hc1;have hii:(i:Int)<(l.length:Int):=by omega
    have hsh2:vl.length<=1000:=hsh.2;clear hc0 hc1 hA2 hsh;go_upto_region 11 with fail
    have HE0:=hi_ (Blk.new wr #[.string ⟨nm.toArray⟩,.string ⟨vl.toArray⟩] 142);have hbE:Below wr.heap.size wr (wr.alloc (.cells #[.string ⟨nm.toArray⟩,.string ⟨vl.toArray⟩] 142)):=(Below.refl _ wr).alloc (nl_) _;have HXE:=hi_ (HX.o.below hbE);have HOE:=hi_ (own_below HO.o hbE);have HBE:=bt_ HB hbE;clear hbE k0 k1;generalize hEE:wr.heap.size=E at *;generalize wr.alloc (.cells #[.string ⟨nm.toArray⟩,.string ⟨vl.toArray⟩] 142)=wE at *;have hcE:=ae_ HE0.o;have m0:wE.cell? ⟨E,0,none⟩=some (.string ⟨nm.toArray⟩):=hcE.1 0;have m1:wE.cell? ⟨E,1,none⟩=some (.string ⟨vl.toArray⟩):=hcE.1 1;obtain⟨⟨k0,k1,k2,k3,k4,k5,k6,k7,k8⟩,_⟩:=b2_ HXE.o;have hlE:=HE0.o.lt;have hlX:=HXE.o.lt;have HlE:=hi_ hlE;have HlX:=hi_ hlX;have HM0:=hi_ m0;have HK2:=hi_ k2
    have HNo:=hi_ (ai_ HOE.o HXE.o (by decide));clear k0 k1 k3 k4 k5 k6 k7 k8 hcE;obtain⟨i0,hi0,hz0,hz1,hz2⟩:=info_parts my_;have HBd:=hi_ (Below.refl wE.heap.size wE).drew
    go_region_law
      (first
       | (go_simp
          go_at_call 104
          refine(QR.o vl hsh2 _ (HBE.o.trans (HBd.o.mono HBE.o.size))).mono ?_;rintro e w6 ⟨rfl,b6⟩;have HB6:=bt_ HBd b6;have hs6:=HB6.o.size;have hlE6:E<w6.heap.size:=Nat.lt_of_lt_of_le HlE.o hs6;have hlX6:w.heap.size<w6.heap.size:=Nat.lt_of_lt_of_le HlX.o hs6;have e60:=(HB6.o.cell (p:=⟨E,0,none⟩) HlE.o).trans HM0.o;have e62:=(HB6.o.cell (p:=⟨w.heap.size,2,none⟩) HlX.o).trans HK2.o;clear b6 hs6
          go_simp)
       | (with_reducible refine bo_ (w6.alloc (.cells #[.string ⟨nm.toArray⟩, .string ⟨(U.rep vl).toArray⟩] 142)) ?_
          refine step_append_lies _ (by rfl) _ _ 124 (by rfl) w.heap.size 142 i0 _ 2 32 Tryz.underlying124 hi0 hz0 hz1 hz2 rfl (by omega) (.slice bo i bcap) i (((l.take i).map hK_).flatMap aj_) (by rfl) (World.ownsRow.alloc (own_below HOE.o HB6.o) _) ⟨w6.heap.size,0,none⟩ 1 1 [.string ⟨nm.toArray⟩,.string ⟨(U.rep vl).toArray⟩] (by rfl) (by rfl) (World.news_of_block (cs:=#[.string ⟨nm.toArray⟩,.string ⟨(U.rep vl).toArray⟩]) (heap_alloc_new w6 (.cells #[.string ⟨nm.toArray⟩,.string ⟨(U.rep vl).toArray⟩] 142))) (by simp[Value.oneCell']) (by omega) (by unfold maxLen;omega) (by omega) (by have:=HB6.o.size;have:=HBE.o.size;simp<;>omega) (w6.heap.size+1) (by simp) ?_;intro gg cap2 w7 hown7 hgrow hat hlt7
          have hbk:Blk w.heap.size #[.int .i64 2,.string ⟨name.toArray⟩,.slice bo i bcap,.string ⟨#[]⟩,.int .i64 0,.int .i64 0,.int .i64 0,.int .i64 0,.int .i64 0] 126 w7:=(hgrow.block w.heap.size (by have:=HB6.o.size;have:=HlX.o;simp<;>omega) (fun h=>HNo.o h.symm)).trans ((HXE.o.below HB6.o).alloc _);obtain⟨⟨_,_,e72,_⟩,⟨_,_,g72,_⟩⟩:=b2_ hbk;have hltb:=hbk.lt))
    all_goals (
     have hs6:=HB6.o.size;have hsE:=HBE.o.size;have HB7:=hi_ (((HBE.o.trans (HB6.o.mono hsE)).alloc (by omega) _).grown hgrow (by simp;omega) (fun k e=>(HOE.o.lt k e).1));have HX8:=hi_ (Blk.node2 hbk (.slice (some ⟨gg,0,none⟩) (i+1) cap2));have HB8:=hi_ (HB7.o.setCell (p:=⟨w.heap.size,2,none⟩) (nl_) (.slice (some ⟨gg,0,none⟩) (i+1) cap2));have HO8:=hi_ (bk_ hown7 hbk (by decide) 2 (.slice (some ⟨gg,0,none⟩) (i+1) cap2));have HO9:Hd (World.ownsRow (w7.setCell ⟨w.heap.size,2,none⟩ (.slice (some ⟨gg,0,none⟩) (i+1) cap2)) w.heap.size 142 2 (.slice (some ⟨gg,0,none⟩) (i+1) cap2) (i+1) (((l.take (i+1)).map hK_).flatMap aj_)):=hi_ (by rw[HTk.o];exact HO8.o);clear HO8 HB7 hown7 hgrow hat hbk;go_wp2_with fail
     go_roundw
     case rel=>exact⟨i+1,some ⟨gg,0,none⟩,cap2,by go_num,by omega,HB8,HX8,HO9⟩
     simp[Go.RowKit.intOf];omega)
   have hie:i=l.length:=by omega
   subst hie;have hnot:¬((l.length:Nat):Int)<((l.length:Nat):Int):=by omega
   have hxl:x.attrs.length=l.length:=by rw[HXe.o];simp
   have HXt:Hd (Blk w.heap.size #[.int .i64 x.kind,.string ⟨x.name.toArray⟩,.slice bo x.attrs.length bcap,.string ⟨x.data.toArray⟩,.int .i64 0,.int .i64 0,.int .i64 0,.int .i64 0,.int .i64 0] 126 wr):=hi_ (by
    rw[hxl,HXe.o];exact HX.o)
   have HAtt:Hd (aw_ wr (.slice bo x.attrs.length bcap) x.attrs):=hi_ (by
    have h1:=HO.o;rw[List.take_length]at h1;have e9:x.attrs=l.map hK_:=by rw[HXe.o]
    show World.ownsRow _ 0 _ 2 (.slice bo x.attrs.length bcap) x.attrs.length (x.attrs.flatMap aj_);rw[hxl,e9];exact ca_ h1 (Nat.zero_le _))
   have hxa:x.attrs.length<=64:=by omega
   have hxd:x.data.length<=3000:=by rw[HXe.o];simp
   have wa:decide ((64:Int)<(x.attrs.length:Int))=false:=decide_eq_false (by omega);have wa2:(x.attrs.length:Int)<=64:=by omega
   have HSh:Hd (∀a,a∈x.attrs->a.2.length<=1000000):=hi_ (by
    rw[HXe.o];intro a ha;obtain⟨b,hb,e⟩:=List.mem_map.1 ha;rw[<-e];have h1:=(HLs.o b hb).2;have h2:=fQ_ b.2;show(U.rep b.2).length<=_
    omega)
   have HBt:=HB;clear hxl HX HO HB HLs QR HB4 HX4;go_upto_region 16 with fail
   generalize hao:bo=ao at *;generalize hac:bcap=acap at *;clear hao hac;generalize wr=WX at *;obtain⟨⟨a0,a1,a2,a3,a4,a5,a6,a7,a8⟩,_⟩:=b2_ HXt.o;have hlA:=HXt.o.lt;have HXl:=hi_ (fun W (hb:Below WX.heap.size WX W)=>b2_ (HXt.o.below hb));have hlA2:=hi_ hlA;have QL2:=hi_ (QL.o WX HBt.o);go_wp2_with fail
   refine QL2.o.mono ?_;rintro e w5 ⟨rfl,hb5⟩;obtain⟨⟨b0,b1,b2,b3,b4,b5,b6,b7,b8⟩,_⟩:=HXl.o w5 hb5;have hlB:=Nat.lt_of_lt_of_le hlA2.out hb5.size;have QLo:Hd (Calls Tryz.prog 108 #[.string ⟨x.data.toArray⟩] w5 fun e w'=>e=.returned (.bool false)/\w5=w'):=hi_ (by
    have h:=N.long_ x.data w5
    rwa [decide_eq_false (by omega)]at h)
   have QCo:=hi_ (fp_ (.slice ao x.attrs.length acap) x.attrs w5 (own_below HAtt.o hb5) (by omega) HSh.o);have HB5:=hi_ hb5;clear a0 a1 a2 a3 a4 a5 a6 a7 a8 hlA QL2 hb5;go_wp2_with fail
   refine QLo.o.mono ?_;rintro e w5' ⟨rfl,rfl⟩;clear QLo;go_wp2_with fail
   refine QCo.o.mono ?_;rintro e w6 ⟨rfl,hb6⟩;have HB6:=bt_ HB5 hb6;obtain⟨⟨d0,d1,d2,d3,d4,d5,d6,d7,d8⟩,_⟩:=HXl.o w6 HB6.o;have hlC:=Nat.lt_of_lt_of_le hlA2.out HB6.o.size;have D0:=lc_ d0 hlC;have D1:=lc_ d1 hlC;have D2:=lc_ d2 hlC;have D3:=lc_ d3 hlC;have D4:=lc_ d4 hlC;have D5:=lc_ d5 hlC;have D6:=lc_ d6 hlC;have D7:=lc_ d7 hlC;have D8:=lc_ d8 hlC;clear b0 b1 b2 b3 b4 b5 b6 b7 b8 hlB QCo hb6;go_wp2_with fail
   refine aS_ 4 (by kernel_rfl) (by kernel_rfl) ?_;simp only[List.take_succ_cons,List.take_zero,List.drop_succ_cons,List.drop_zero];repeat (go_big_quiet_step (fail))
   refine wq_ (fun dq=>?_);have HB7:=hi_ (HBt.o.trans ((HB6.o.trans (dq.h.mono HB6.o.size)).mono HBt.o.size));have HAt7:=hi_ (own_below (own_below HAtt.o HB6.o) dq.h);clear D0 D1 D2 D3 D4 D5 D6 D7 D8 d0 d1 d2 d3 d4 d5 d6 d7 d8 hlC HXl HB5 HB6;generalize dq.w=w4 at *;clear dq;have hTv:=(HT.o.below HB7.o).mem.v;have QA:=hi_ (add_ T (.slice (some ⟨T.g,0,none⟩) T.slots.length T.cap) x (.slice ao x.attrs.length acap) w4 hTv HFr.o HAt7.o (by omega) hlv hff);unfold fX_ at QA;clear hTv;go_wp2_with fail
   refine QA.o.mono ?_;rintro e w8 ⟨g,cap,V',rfl,hf5,hm5,hg5,hv5⟩;have HAd:=hi_ (fa_ T (x:=x) (av:=.slice ao x.attrs.length acap) (g:=g) (cap:=cap) (V:=V') HFr.o);have HF5:=hi_ ((H.Frame.of (S:=T.foot) HB7.o).trans hf5 (fun b hb=>Or.inl (hA_ hb)));have hsz4:=HB7.o.size;have HGo4:=hi_ (gd_ (w:=w4) (r:=aL_ x (.slice ao x.attrs.length acap)) (cap:=cap) (show g=T.g\/w4.heap.size<=g from hg5.imp (fun e=>by have e:some T.g=some g:=e;injection e with e;exact e.symm) (fun e=>e)) hv5);have HGo5:=hi_ ((Goes.refl w T).trans hsz4 HGo4.o);have hFx:=HT.o.fits.add (x:=x) (by rw[HXe.o]) (by rw[HXe.o]) HKx.o (by rw[HXe.o]) HAd.o;have HL5:=hi_ (hz_ T (aL_ x (.slice ao x.attrs.length acap)) g cap V');go_wp2_with fail
   have hval:handle T.bs T.st T.next=hd T (i6_ m pos T.next) m.length:=by unfold hd;rw[c8_]
   refine bodyPost_ret (v:=.tuple #[.int .i64 (handle T.bs T.st T.next),.int .i64 0]) (by simp[results,Tryz.results58,go_sem]) rfl ?_;rw[HRs.o];exact⟨_,i6_ m pos T.next,by rw[hval],HF5.o,HGo5.o,⟨hm5,hFx⟩,fun i hi=>b8_ hi,by have:=HL5.o;simp;omega⟩
end A
end
end Go.Proofs.YtinphfpdfodkkaaGreatDoor
