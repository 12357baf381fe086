/- Texts. -/
import Derived.Test.YtinphfpdfodkkaaGreatDoorP37
set_option linter.unusedVariables false
set_option linter.unusedSimpArgs false
set_option maxHeartbeats 8000000
set_option maxRecDepth 100000
namespace Go.Proofs.YtinphfpdfodkkaaGreatDoor
section
open Go.RowKit Go.Sort
namespace A
open H G R
theorem do3_3(w0 w:World)(X:Tw)(o:G.Op)(k:Nat)(h:be_ w0 w X)(hF:Fit w0 X o k)(hk:o.kind % 10=3)(hA:has X.m (o.at_ X.m)=true)(hB:has X.m (o.bt X.m)=true)(ci:Nat)(hC:o.ct X.m=some ci)(hI:has X.m ci=false) :
  Calls Tryz.prog 24 #[.pointer (some ⟨X.tb,0,none⟩),opV o] w fun e w'=>i2_ w0 w X o e w':=by
 have hl:=h.pos_len;obtain⟨e1,e2,e3,n1,n2,n3,q1,q2⟩:=cn_ o hl hF.few hF.u8 X.m rfl;have HOV:=di_ o;rw[HOV.out];have ek:Int.tmod (o.kind:Int) 10=3:=by rw[show(10:Int)=((10:Nat):Int)from rfl,<-Int.ofNat_tmod,hk];rfl
 obtain⟨hb1,HO1,HN0⟩:=dh_ w o;have H1:=hi_ (h.below hb1);have HB1:=hi_ hb1;obtain⟨g,cap,hv,_,hcap,_⟩:=h.toMid.cells hl;have HF:=hi_ hF;obtain⟨⟨ha1,ha2,ha3,hfw⟩,⟨wa1,wa2,wa3⟩,wn1,wc1,hn0,hn00,hn1,hn11⟩:=bW_ hF hl;clear hb1 HOV
 go_enter Tryz.func24,Tryz.ntmps24
 obtain⟨c0,c1,c2,hlt⟩:=cells3 H1.out.blk;obtain⟨o0,o1,o2,o3,o4,o5,o6,o7⟩:=a8_ HO1.out;have hlo:=HO1.out.lt;rw[hv]at c2;go_upto_region 2 with fail
 go_quiet (fail)
 rw[jY_ rfl hfw];have H2:=hi_ (H1.out.below (bdN (br_) nq));have HO2:=hi_ (HO1.out.below (bdN (br_) nq));have HB2:=hi_ (bdN HB1.out nq);have HN2:=hi_ (HN0.out nq);clear HN0;clear H1 HO1 HB1 c0 c1 c2 hlt o0 o1 o2 o3 o4 o5 o6 o7 hlo;generalize (w.alloc (.cells #[.int .u8 o.kind,.int .u8 o.a,.int .u8 o.b,.int .u8 o.c,.string ⟨o.s.toArray⟩,.string ⟨o.t.toArray⟩,.int .i8 o.n,.int .i8 o.k] 65)).drewN nq=w2 at *;obtain⟨c0,c1,c2,hlt⟩:=cells3 H2.out.blk;obtain⟨o0,o1,o2,o3,o4,o5,o6,o7⟩:=a8_ HO2.out;have hlo:=HO2.out.lt;rw[hv]at c2;have QH:=hi_ (fun(i:Nat) W (hb:Below w2.heap.size w2 W)=>gf_ X.M i W (H2.out.model.below hb));have HSm:=hi_ h.sim;have HV:=hi_ hv;have hst1:=d8_ (lim:=some 64) (m:=X.m) hk;have hst2:=d8_ (lim:=none) (m:=X.M.m) (o:=o) hk
 have hat:o.at_ X.M.m=o.at_ X.m:=by unfold Op.at_;rw[h.sim.len]
 have hbt:o.bt X.M.m=o.bt X.m:=by unfold Op.bt;rw[h.sim.len]
 have hct:o.ct X.M.m=o.ct X.m:=by unfold Op.ct;rw[h.sim.len]
 have hho:iM_ X.M.m (o.ct X.m)=iM_ X.m (o.ct X.m):=by
  cases o.ct X.m with
  |none=>rfl
  |some i=>exact(h.sim.has i).symm
 rw[hat,hbt,hct,hho,<-h.sim.has,<-h.sim.has]at hst2;obtain⟨a,ha⟩:∃a,a=o.at_ X.m:=⟨_,rfl⟩;obtain⟨b,hb⟩:∃b,b=o.bt X.m:=⟨_,rfl⟩;obtain⟨c,hc⟩:∃c,c=o.ct X.m:=⟨_,rfl⟩;rw[<-ha]at hA;rw[<-hb]at hB;rw[<-hc]at hC;rw[<-ha,<-hb,<-hc]at hst1 hst2;rw[<-ha]at n1 ⊢;rw[<-hb]at n2 ⊢;rw[<-hc]at n3 ⊢;have HSt1:=hi_ hst1;have HSt2:=hi_ hst2;clear hst1 hst2 hat hbt hct hho ha hb hc h hF e1 e2 e3 wa1 wa2 wa3 wn1 wc1 hn0 hn00 hn1 hn11 q1 q2;go_wp2_with fail
 refine(QH.out a w2 (br_)).mono ?_;rintro e w2' ⟨rfl,rfl⟩;rw[<-HSm.out.has];have hza:=H2.out.toMid.get hv n1;have hzb:=H2.out.toMid.get hv n2;have hgl:=hza.2.2;have hai:(a:Int)<(X.m.length:Int):=by omega
 have ha0:(0:Int)<=(a:Int):=by omega
 have hbi:(b:Int)<(X.m.length:Int):=by omega
 have hb0:(0:Int)<=(b:Int):=by omega
 have D0:=lc_ c0 hlt;have D2:=lc_ c2 hlt;have DA:=fun d:Later w2.heap.size w2=>Later.cell hza.1 hgl d;have DB:=fun d:Later w2.heap.size w2=>Later.cell hzb.1 hgl d;have QK:=hi_ (fun W (hb:Below w2.heap.size w2 W)=>cg_ (H2.out.below hb).toMid hl c n3);have hBa:=cP_ H2.out a;have hBb:=cP_ H2.out b;have hBc:=fU_ H2.out c;rw[hA];have Q1:=hi_ (QH.out b w2 (br_));rw[<-HSm.out.has,hB]at Q1;have Q2:=hi_ (QH.out ci w2 (br_));rw[<-HSm.out.has,hI]at Q2;subst hC;have HR1:Hid (G.step (some 64) X.m o=([],6,X.m)):=hi_ (by rw[HSt1.out];rw[hA,hB];show(if (true && (true && has X.m ci))=true then _ else _)=_;rw[hI];rfl);have HR2:Hid (G.step none X.M.m o=([],6,X.M.m)):=hi_ (by rw[HSt2.out];rw[hA,hB];show(if (true && (true && has X.m ci))=true then _ else _)=_;rw[hI];rfl)
 have QN:=hi_ (fun W (hb:Below w2.heap.size w2 W)=>ee_ X.T (hv1 X.T X.pos X.m b) (hv1 X.T X.pos X.m a) (hvO X (some ci)) W (H2.out.below hb).tree.mem (by omega) (by omega) (by omega) (by omega) (by omega) (by omega) (by have e3:hvO X (some ci)=-1:=cj_ hI;rw[e3];exact Or.inr (Or.inr ⟨by omega,cG_ H2.out.tree.fits 1⟩)));have hi0:=lj_ ci;have hi1:=nZ_ ci;clear hA hB hI;rw[iy_ ci]at QK ⊢;go_wp2_with fail
 refine Q1.out.mono ?_;rintro e w2'' ⟨rfl,rfl⟩;go_wp2_with fail
 refine Q2.out.mono ?_;rintro e w2'' ⟨rfl,rfl⟩;go_upto_region 33 with fail
 refine an_ 21 _ _ (by kernel_rfl) (by kernel_rfl) rfl ?_;simp only[List.take_succ_cons,List.take_zero];repeat (go_big_quiet_step ((go_at_call 61;exact Calls.later_same (QK.out _ (Later.h _)))))
 refine wq_ (fun dq=>?_);intro K hK;have HD3:=hi_ dq.h;clear D0 D2 DA DB;generalize dq.w=w3 at *;go_simp
 go_at_call 60
 refine(QN.out w3 HD3.out).mono ?_;rintro e w4 ⟨rfl,hb4⟩;have HB4:=bt_ HD3 hb4;go_simp
 refine hK _ _ (ar_ ?_);clear hK K;repeat (go_big_quiet_step (fail))
 refine wq_ (fun dq=>?_);have HB5:=bt_ HB4 dq.h;generalize dq.w=w5 at *;go_wp2_with fail
 refine bodyPost_ret (v:=.tuple #[.slice none 0 0,.bool true]) (by simp[results,Tryz.results24,go_sem]) rfl ⟨_,_,X,rfl,H2.out.below HB5.out,rfl,rfl,rfl,(fun _ _=>rfl),by rw[HR1.out],by rw[HR2.out],by rw[HR1.out];exact ax_.nil _ _ _ _,fun _ _=>rfl⟩
theorem do3_1(w0 w:World)(X:Tw)(o:G.Op)(k:Nat)(h:be_ w0 w X)(hF:Fit w0 X o k)(hk:o.kind % 10=3)(hA:has X.m (o.at_ X.m)=false) :
  Calls Tryz.prog 24 #[.pointer (some ⟨X.tb,0,none⟩),opV o] w fun e w'=>i2_ w0 w X o e w':=by
 have hl:=h.pos_len;obtain⟨e1,e2,e3,n1,n2,n3,q1,q2⟩:=cn_ o hl hF.few hF.u8 X.m rfl;have HOV:=di_ o;rw[HOV.out];have ek:Int.tmod (o.kind:Int) 10=3:=by rw[show(10:Int)=((10:Nat):Int)from rfl,<-Int.ofNat_tmod,hk];rfl
 obtain⟨hb1,HO1,HN0⟩:=dh_ w o;have H1:=hi_ (h.below hb1);have HB1:=hi_ hb1;obtain⟨g,cap,hv,_,hcap,_⟩:=h.toMid.cells hl;have HF:=hi_ hF;obtain⟨⟨ha1,ha2,ha3,hfw⟩,⟨wa1,wa2,wa3⟩,wn1,wc1,hn0,hn00,hn1,hn11⟩:=bW_ hF hl;clear hb1 HOV
 go_enter Tryz.func24,Tryz.ntmps24
 obtain⟨c0,c1,c2,hlt⟩:=cells3 H1.out.blk;obtain⟨o0,o1,o2,o3,o4,o5,o6,o7⟩:=a8_ HO1.out;have hlo:=HO1.out.lt;rw[hv]at c2;go_upto_region 2 with fail
 go_quiet (fail)
 rw[jY_ rfl hfw];have H2:=hi_ (H1.out.below (bdN (br_) nq));have HO2:=hi_ (HO1.out.below (bdN (br_) nq));have HB2:=hi_ (bdN HB1.out nq);have HN2:=hi_ (HN0.out nq);clear HN0;clear H1 HO1 HB1 c0 c1 c2 hlt o0 o1 o2 o3 o4 o5 o6 o7 hlo;generalize (w.alloc (.cells #[.int .u8 o.kind,.int .u8 o.a,.int .u8 o.b,.int .u8 o.c,.string ⟨o.s.toArray⟩,.string ⟨o.t.toArray⟩,.int .i8 o.n,.int .i8 o.k] 65)).drewN nq=w2 at *;obtain⟨c0,c1,c2,hlt⟩:=cells3 H2.out.blk;obtain⟨o0,o1,o2,o3,o4,o5,o6,o7⟩:=a8_ HO2.out;have hlo:=HO2.out.lt;rw[hv]at c2;have QH:=hi_ (fun(i:Nat) W (hb:Below w2.heap.size w2 W)=>gf_ X.M i W (H2.out.model.below hb));have HSm:=hi_ h.sim;have HV:=hi_ hv;have hst1:=d8_ (lim:=some 64) (m:=X.m) hk;have hst2:=d8_ (lim:=none) (m:=X.M.m) (o:=o) hk
 have hat:o.at_ X.M.m=o.at_ X.m:=by unfold Op.at_;rw[h.sim.len]
 have hbt:o.bt X.M.m=o.bt X.m:=by unfold Op.bt;rw[h.sim.len]
 have hct:o.ct X.M.m=o.ct X.m:=by unfold Op.ct;rw[h.sim.len]
 have hho:iM_ X.M.m (o.ct X.m)=iM_ X.m (o.ct X.m):=by
  cases o.ct X.m with
  |none=>rfl
  |some i=>exact(h.sim.has i).symm
 rw[hat,hbt,hct,hho,<-h.sim.has,<-h.sim.has]at hst2;obtain⟨a,ha⟩:∃a,a=o.at_ X.m:=⟨_,rfl⟩;obtain⟨b,hb⟩:∃b,b=o.bt X.m:=⟨_,rfl⟩;obtain⟨c,hc⟩:∃c,c=o.ct X.m:=⟨_,rfl⟩;rw[<-ha]at hA;rw[<-ha,<-hb,<-hc]at hst1 hst2;rw[<-ha]at n1 ⊢;rw[<-hb]at n2 ⊢;rw[<-hc]at n3 ⊢;have HSt1:=hi_ hst1;have HSt2:=hi_ hst2;clear hst1 hst2 hat hbt hct hho ha hb hc h hF e1 e2 e3 wa1 wa2 wa3 wn1 wc1 hn0 hn00 hn1 hn11 q1 q2;go_wp2_with fail
 refine(QH.out a w2 (br_)).mono ?_;rintro e w2' ⟨rfl,rfl⟩;rw[<-HSm.out.has];have hza:=H2.out.toMid.get hv n1;have hzb:=H2.out.toMid.get hv n2;have hgl:=hza.2.2;have hai:(a:Int)<(X.m.length:Int):=by omega
 have ha0:(0:Int)<=(a:Int):=by omega
 have hbi:(b:Int)<(X.m.length:Int):=by omega
 have hb0:(0:Int)<=(b:Int):=by omega
 have D0:=lc_ c0 hlt;have D2:=lc_ c2 hlt;have DA:=fun d:Later w2.heap.size w2=>Later.cell hza.1 hgl d;have DB:=fun d:Later w2.heap.size w2=>Later.cell hzb.1 hgl d;have QK:=hi_ (fun W (hb:Below w2.heap.size w2 W)=>cg_ (H2.out.below hb).toMid hl c n3);have hBa:=cP_ H2.out a;have hBb:=cP_ H2.out b;have hBc:=fU_ H2.out c;rw[hA];have HR1:Hid (G.step (some 64) X.m o=([],6,X.m)):=hi_ (by rw[HSt1.out];rw[hA];rfl);have HR2:Hid (G.step none X.M.m o=([],6,X.M.m)):=hi_ (by rw[HSt2.out];rw[hA];rfl);have QN:=hi_ (fun W (hb:Below w2.heap.size w2 W)=>ee_ X.T (hv1 X.T X.pos X.m b) (hv1 X.T X.pos X.m a) (hvO X c) W (H2.out.below hb).tree.mem (by omega) (by omega) (by omega) (by omega) (by omega) (by omega) (by rw[cj_ hA];exact Or.inr (Or.inl (cG_ H2.out.tree.fits 1))));clear hA
 go_upto_region 33 with fail
 refine an_ 21 _ _ (by kernel_rfl) (by kernel_rfl) rfl ?_;simp only[List.take_succ_cons,List.take_zero];repeat (go_big_quiet_step ((go_at_call 61;exact Calls.later_same (QK.out _ (Later.h _)))))
 refine wq_ (fun dq=>?_);intro K hK;have HD3:=hi_ dq.h;clear D0 D2 DA DB;generalize dq.w=w3 at *;go_simp
 go_at_call 60
 refine(QN.out w3 HD3.out).mono ?_;rintro e w4 ⟨rfl,hb4⟩;have HB4:=bt_ HD3 hb4;go_simp
 refine hK _ _ (ar_ ?_);clear hK K;repeat (go_big_quiet_step (fail))
 refine wq_ (fun dq=>?_);have HB5:=bt_ HB4 dq.h;generalize dq.w=w5 at *;go_wp2_with fail
 refine bodyPost_ret (v:=.tuple #[.slice none 0 0,.bool true]) (by simp[results,Tryz.results24,go_sem]) rfl ⟨_,_,X,rfl,H2.out.below HB5.out,rfl,rfl,rfl,(fun _ _=>rfl),by rw[HR1.out],by rw[HR2.out],by rw[HR1.out];exact ax_.nil _ _ _ _,fun _ _=>rfl⟩
end A
end
end Go.Proofs.YtinphfpdfodkkaaGreatDoor
