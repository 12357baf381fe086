/- Texts. -/
import Derived.Test.YtinphfpdfodkkaaGreatDoorS36
set_option linter.unusedVariables false
set_option linter.unusedSimpArgs false
set_option maxHeartbeats 8000000
set_option maxRecDepth 100000
namespace Go.Proofs.YtinphfpdfodkkaaGreatDoor
section
open Go.RowKit Go.Sort
namespace A
open H G R
theorem do3_3(w0 w:World)(X:Tw)(o:G.Op)(k:Nat)(h:bu_ w0 w X)(hF:Fit w0 X o k)(hk:o.kind % 10=3)(hA:has X.m (o.at_ X.m)=true)(hB:has X.m (o.bt X.m)=true)(ci:Nat)(hC:o.ct X.m=some ci)(hI:has X.m ci=false) :
  Calls Tryz.prog 24 #[.pointer (some ⟨X.tb,0,none⟩),opV o] w fun e w'=>jB_ w0 w X o e w':=by
 have hl:=h.pos_len;obtain⟨e1,e2,e3,n1,n2,n3,q1,q2⟩:=cv_ o hl hF.few hF.u8 X.m rfl;have HOV:=ds_ o;rw[HOV.o];have ek:Int.tmod (o.kind:Int) 10=3:=by rw[show(10:Int)=((10:Nat):Int)from rfl,<-Int.ofNat_tmod,hk];rfl
 obtain⟨hb1,HO1,HN0⟩:=dr_ w o;have H1:=hi_ (h.below hb1);have HB1:=hi_ hb1;obtain⟨g,cap,hv,_,hcap,_⟩:=h.toMid.cells hl;have HF:=hi_ hF;obtain⟨⟨ha1,ha2,ha3,hfw⟩,⟨wa1,wa2,wa3⟩,wn1,wc1,hn0,hn00,hn1,hn11⟩:=bZ_ hF hl;clear hb1 HOV
 go_enter Tryz.func24,Tryz.ntmps24
 obtain⟨c0,c1,c2,hlt⟩:=cells3 H1.o.blk;obtain⟨o0,o1,o2,o3,o4,o5,o6,o7⟩:=bf_ HO1.o;have hlo:=HO1.o.lt;rw[hv]at c2;go_upto_region 2 with fail
 go_quiet (fail)
 rw[kC_ rfl hfw];have H2:=hi_ (H1.o.below (bdN (br_) nq));have HO2:=hi_ (HO1.o.below (bdN (br_) nq));have HB2:=hi_ (bdN HB1.o nq);have HN2:=hi_ (HN0.o nq);clear HN0;clear H1 HO1 HB1 c0 c1 c2 hlt o0 o1 o2 o3 o4 o5 o6 o7 hlo;generalize (w.alloc (.cells #[.int .u8 o.kind,.int .u8 o.a,.int .u8 o.b,.int .u8 o.c,.string ⟨o.s.toArray⟩,.string ⟨o.t.toArray⟩,.int .i8 o.n,.int .i8 o.k] 65)).drewN nq=w2 at *;obtain⟨c0,c1,c2,hlt⟩:=cells3 H2.o.blk;obtain⟨o0,o1,o2,o3,o4,o5,o6,o7⟩:=bf_ HO2.o;have hlo:=HO2.o.lt;rw[hv]at c2;have QH:=hi_ (fun(i:Nat) W (hb:Below w2.heap.size w2 W)=>hv_ X.M i W (H2.o.model.below hb));have HSm:=hi_ h.sim;have HV:=hi_ hv;have hst1:=ek_ (lim:=some 64) (m:=X.m) hk;have hst2:=ek_ (lim:=none) (m:=X.M.m) (o:=o) hk
 have hat:o.at_ X.M.m=o.at_ X.m:=by unfold Op.at_;rw[h.sim.len]
 have hbt:o.bt X.M.m=o.bt X.m:=by unfold Op.bt;rw[h.sim.len]
 have hct:o.ct X.M.m=o.ct X.m:=by unfold Op.ct;rw[h.sim.len]
 have hho:hM_ X.M.m (o.ct X.m)=hM_ X.m (o.ct X.m):=by
  cases o.ct X.m with
  |none=>rfl
  |some i=>exact(h.sim.has i).symm
 rw[hat,hbt,hct,hho,<-h.sim.has,<-h.sim.has]at hst2;obtain⟨a,ha⟩:∃a,a=o.at_ X.m:=⟨_,rfl⟩;obtain⟨b,hb⟩:∃b,b=o.bt X.m:=⟨_,rfl⟩;obtain⟨c,hc⟩:∃c,c=o.ct X.m:=⟨_,rfl⟩;rw[<-ha]at hA;rw[<-hb]at hB;rw[<-hc]at hC;rw[<-ha,<-hb,<-hc]at hst1 hst2;rw[<-ha]at n1 ⊢;rw[<-hb]at n2 ⊢;rw[<-hc]at n3 ⊢;have HSt1:=hi_ hst1;have HSt2:=hi_ hst2;clear hst1 hst2 hat hbt hct hho ha hb hc h hF e1 e2 e3 wa1 wa2 wa3 wn1 wc1 hn0 hn00 hn1 hn11 q1 q2;go_wp2_with fail
 refine(QH.o a w2 (br_)).mono ?_;rintro e w2' ⟨rfl,rfl⟩;rw[<-HSm.o.has];have hza:=H2.o.toMid.get hv n1;have hzb:=H2.o.toMid.get hv n2;have hgl:=hza.2.2;have hai:(a:Int)<(X.m.length:Int):=by omega
 have ha0:(0:Int)<=(a:Int):=by omega
 have hbi:(b:Int)<(X.m.length:Int):=by omega
 have hb0:(0:Int)<=(b:Int):=by omega
 have D0:=lc_ c0 hlt;have D2:=lc_ c2 hlt;have DA:=fun d:Later w2.heap.size w2=>Later.cell hza.1 hgl d;have DB:=fun d:Later w2.heap.size w2=>Later.cell hzb.1 hgl d;have QK:=hi_ (fun W (hb:Below w2.heap.size w2 W)=>ck_ (H2.o.below hb).toMid hl c n3);have hBa:=c2_ H2.o a;have hBb:=c2_ H2.o b;have hBc:=ga_ H2.o c;rw[hA];have Q1:=hi_ (QH.o b w2 (br_));rw[<-HSm.o.has,hB]at Q1;have Q2:=hi_ (QH.o ci w2 (br_));rw[<-HSm.o.has,hI]at Q2;subst hC;have HR1:Hd (G.step (some 64) X.m o=([],6,X.m)):=hi_ (by rw[HSt1.o];rw[hA,hB];show(if (true && (true && has X.m ci))=true then _ else _)=_;rw[hI];rfl);have HR2:Hd (G.step none X.M.m o=([],6,X.M.m)):=hi_ (by rw[HSt2.o];rw[hA,hB];show(if (true && (true && has X.m ci))=true then _ else _)=_;rw[hI];rfl)
 have QN:=hi_ (fun W (hb:Below w2.heap.size w2 W)=>er_ X.T (hv1 X.T X.pos X.m b) (hv1 X.T X.pos X.m a) (hvO X (some ci)) W (H2.o.below hb).tree.mem (by omega) (by omega) (by omega) (by omega) (by omega) (by omega) (by have e3:hvO X (some ci)=-1:=bX_ hI;rw[e3];exact Or.inr (Or.inr ⟨by omega,cm_ H2.o.tree.fits 1⟩)));have hi0:=l6_ ci;have hi1:=o3_ ci;clear hA hB hI;rw[i9_ ci]at QK ⊢;go_wp2_with fail
 refine Q1.o.mono ?_;rintro e w2'' ⟨rfl,rfl⟩;go_wp2_with fail
 refine Q2.o.mono ?_;rintro e w2'' ⟨rfl,rfl⟩;go_upto_region 33 with fail
 refine ao_ 21 _ _ (by kernel_rfl) (by kernel_rfl) rfl ?_;simp only[List.take_succ_cons,List.take_zero];repeat (go_big_quiet_step ((go_at_call 61;exact Calls.later_same (QK.o _ (Later.h _)))))
 refine wq_ (fun dq=>?_);intro K hK;have HD3:=hi_ dq.h;clear D0 D2 DA DB;generalize dq.w=w3 at *;go_simp
 go_at_call 60
 refine(QN.o w3 HD3.o).mono ?_;rintro e w4 ⟨rfl,hb4⟩;have HB4:=bt_ HD3 hb4;go_simp
 refine hK _ _ (as_ ?_);clear hK K;repeat (go_big_quiet_step (fail))
 refine wq_ (fun dq=>?_);have HB5:=bt_ HB4 dq.h;generalize dq.w=w5 at *;go_wp2_with fail
 refine bodyPost_ret (v:=.tuple #[.slice none 0 0,.bool true]) (by simp[results,Tryz.results24,go_sem]) rfl ⟨_,_,X,rfl,H2.o.below HB5.o,rfl,rfl,rfl,(fun _ _=>rfl),by rw[HR1.o],by rw[HR2.o],by rw[HR1.o];exact aD_.nil _ _ _ _,fun _ _=>rfl⟩
end A
end
section
open Go.RowKit Go.Sort
namespace A
open H G R
theorem gQ_{w wE:World}{T:am_}{M:aJ_}{tb g:Nat}(hw:Below w.heap.size w wE)(hT:ag_ wE T [aG_] (fun _=>0))(hM:ac_ wE M)(hm:M.m=[aG_])(hap:∀k,T.foot k->¬M.foot k)
  (hb:Blk tb #[.pointer (some ⟨T.tb,0,none⟩),.pointer (some ⟨M.mb,0,none⟩),.slice (some ⟨g,0,none⟩) 1 1] 41 wE) (hr:wE.ownsRow w.heap.size 3 1 (.slice (some ⟨g,0,none⟩) 1 1) 1 [.int .i64 T.root])
  (hg:¬T.foot g/\¬M.foot g) (hs:T.slots.length=1) (low:∀k,T.foot k->w.heap.size<=k) (lowM:∀k,M.foot k->w.heap.size<=k) (htb:w.heap.size<=tb) :
  bu_ w wE ⟨T,[aG_],fun _=>0,M,tb,.slice (some ⟨g,0,none⟩) 1 1,w.heap.size,w,fun _=>False⟩:=by
 have hkk:∀k,(Value.slice (some ⟨g,0,none⟩) 1 1).ownBlock=some k->g=k:=fun k hk=>by simpa[Value.ownBlock]using hk
 refine⟨hT,hM,by rw[hm];exact Sim.refl _,hap,hb,?_,fun k hk=>?_,by rw[hs];exact nl_,hw,fun k hk=>?_,H.Frame.of hw,fun k hk=>Or.inr ?_⟩
 ·have e:bB_ (hvs T (fun _=>0) [aG_] [aG_].length)=[.int .i64 T.root]:=by
   rw[hT.fits.root];rfl
  rw[e];exact hr
 ·rw[<-hkk k hk];exact hg
 ·rcases hk with e|e|e|e
  ·rw[e];exact htb
  ·exact low k e
  ·exact lowM k e
  exact(World.ownsRow.lt hr k e).1
 rcases hk with e|e|e|e
 ·rw[e];exact htb
 ·exact low k e
 ·exact lowM k e
 exact(World.ownsRow.lt hr k e).1
section
variable {w w2 w3:World} {T:am_} {M:aJ_}
theorem n9_(h:w.heap.size<=T.g)(h6:∀k,T.freeV.ownBlock=some k->w.heap.size<=k)(h7:w.heap.size<=T.tb)(k:Nat)(hk:T.foot k):w.heap.size<=k:=by
 rcases hk with e|e|e
 ·rw[e];exact h7
 ·rw[e];exact h
 exact h6 k e
theorem start_A(HB2:Below w.heap.size w w2)(HT:ag_ w2 T [aG_] (fun _=>0))(hs:T.slots.length=1)(hl:∀k,T.foot k->w.heap.size<=k)(hb3:Below w2.heap.size w2 w3)(hM:ac_ w3 M)(hm:M.m=[aG_])(hlow:∀k,M.foot k->w2.heap.size<=k) :
  bu_ w ((w3.alloc (.cells #[.int .i64 T.root] 3)).alloc (.cells #[.pointer (some ⟨T.tb,0,none⟩),.pointer (some ⟨M.mb,0,none⟩),.slice (some ⟨w3.heap.size,0,none⟩) 1 1] 41)) ⟨T,[aG_],fun _=>0,M,w3.heap.size+1,.slice (some ⟨w3.heap.size,0,none⟩) 1 1,w.heap.size,w,fun _=>False⟩:=by
 have h34:=((Below.refl w3.heap.size w3).alloc (nl_) (.cells #[.int .i64 T.root] 3)).alloc (by simp) (.cells #[.pointer (some ⟨T.tb,0,none⟩),.pointer (some ⟨M.mb,0,none⟩),.slice (some ⟨w3.heap.size,0,none⟩) 1 1] 41);have h24:=hb3.trans (h34.mono hb3.size);have z1:=HB2.size;have z2:=hb3.size;refine gQ_ (HB2.trans (h24.mono HB2.size)) (HT.below h24) (hM.below h34) hm (fun k hk hMk=>by have:=bG_ HT.mem hk;have:=hlow k hMk;omega) ?_ ?_ ⟨fun e=>by have:=bG_ HT.mem e;omega,fun e=>by have:=R.foot_lt hM e;omega⟩ hs hl (fun k hk=>by have:=hlow k hk;omega) (by omega)
 ·have h1:=Blk.new (w3.alloc (.cells #[.int .i64 T.root] 3)) #[.pointer (some ⟨T.tb,0,none⟩),.pointer (some ⟨M.mb,0,none⟩),.slice (some ⟨w3.heap.size,0,none⟩) 1 1] 41
  rw[World.size_alloc]at h1;exact h1
 exact World.ownsRow.alloc (World.ownsRow_lit (e:=3) (base:=w.heap.size) (size:=1) w3 #[.int .i64 T.root] 1 (by omega) (by unfold maxLen;omega) (by simp)) _
theorem start_C(HB2:Below w.heap.size w w2)(HT:ag_ w2 T [aG_] (fun _=>0))(hs:T.slots.length=1)(hl:∀k,T.foot k->w.heap.size<=k)(hb3:Below (w2.alloc (.cells #[.int .i64 T.root] 3)).heap.size (w2.alloc (.cells #[.int .i64 T.root] 3)) w3)(hM:ac_ w3 M)(hm:M.m=[aG_])(hlow:∀k,M.foot k->(w2.alloc (.cells #[.int .i64 T.root] 3)).heap.size<=k) :
  bu_ w (w3.alloc (.cells #[.pointer (some ⟨T.tb,0,none⟩),.pointer (some ⟨M.mb,0,none⟩),.slice (some ⟨w2.heap.size,0,none⟩) 1 1] 41)) ⟨T,[aG_],fun _=>0,M,w3.heap.size,.slice (some ⟨w2.heap.size,0,none⟩) 1 1,w.heap.size,w,fun _=>False⟩:=by
 have h34:=(Below.refl w3.heap.size w3).alloc (nl_) (.cells #[.pointer (some ⟨T.tb,0,none⟩),.pointer (some ⟨M.mb,0,none⟩),.slice (some ⟨w2.heap.size,0,none⟩) 1 1] 41);have h2a:=(Below.refl w2.heap.size w2).alloc (nl_) (.cells #[.int .i64 T.root] 3);have h24:=(h2a.trans (hb3.mono h2a.size)).trans (h34.mono (Nat.le_trans h2a.size hb3.size));have z1:=HB2.size;have z2:=hb3.size;have z3:(w2.alloc (.cells #[.int .i64 T.root] 3)).heap.size=w2.heap.size+1:=by simp
 refine gQ_ (HB2.trans (h24.mono HB2.size)) (HT.below h24) (hM.below h34) hm (fun k hk hMk=>by have:=bG_ HT.mem hk;have:=hlow k hMk;omega) (Blk.new w3 _ _) ?_ ⟨fun e=>by have:=bG_ HT.mem e;omega,fun e=>by have:=hlow _ e;omega⟩ hs hl (fun k hk=>by have:=hlow k hk;omega) (by omega);have h1:=World.ownsRow_lit (e:=3) (base:=w.heap.size) (size:=1) w2 #[.int .i64 T.root] 1 (by omega) (by unfold maxLen;omega) (by simp);exact own_below (own_below h1 hb3) h34
end
end A
end
end Go.Proofs.YtinphfpdfodkkaaGreatDoor
