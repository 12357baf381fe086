/- Texts. -/
import Derived.Test.YtinphfpdfodkkaaGreatDoorS36
import Derived.Test.YtinphfpdfodkkaaGreatDoorS39
set_option linter.unusedVariables false
set_option linter.unusedSimpArgs false
set_option maxHeartbeats 8000000
set_option maxRecDepth 100000
namespace Go.Proofs.YtinphfpdfodkkaaGreatDoor
section
open Go.RowKit Go.Sort
namespace A
open H G R
theorem do3_1(w0 w:World)(X:Tw)(o:G.Op)(k:Nat)(h:bu_ w0 w X)(hF:Fit w0 X o k)(hk:o.kind % 10=3)(hA:has X.m (o.at_ X.m)=false) :
  Calls Tryz.prog 24 #[.pointer (some ⟨X.tb,0,none⟩),opV o] w fun e w'=>jB_ w0 w X o e w':=by
 have hl:=h.pos_len;obtain⟨e1,e2,e3,n1,n2,n3,q1,q2⟩:=cv_ o hl hF.few hF.u8 X.m rfl;have HOV:=ds_ o;rw[HOV.o];have ek:Int.tmod (o.kind:Int) 10=3:=by rw[show(10:Int)=((10:Nat):Int)from rfl,<-Int.ofNat_tmod,hk];rfl
 obtain⟨hb1,HO1,HN0⟩:=dr_ w o;have H1:=hi_ (h.below hb1);have HB1:=hi_ hb1;obtain⟨g,cap,hv,_,hcap,_⟩:=h.toMid.cells hl;have HF:=hi_ hF;obtain⟨⟨ha1,ha2,ha3,hfw⟩,⟨wa1,wa2,wa3⟩,wn1,wc1,hn0,hn00,hn1,hn11⟩:=bZ_ hF hl;clear hb1 HOV
 go_enter Tryz.func24,Tryz.ntmps24
 obtain⟨c0,c1,c2,hlt⟩:=cells3 H1.o.blk;obtain⟨o0,o1,o2,o3,o4,o5,o6,o7⟩:=bf_ HO1.o;have hlo:=HO1.o.lt;rw[hv]at c2;go_upto_region 2 with fail
 go_quiet (fail)
 rw[kC_ rfl hfw];have H2:=hi_ (H1.o.below (bdN (br_) nq));have HO2:=hi_ (HO1.o.below (bdN (br_) nq));have HB2:=hi_ (bdN HB1.o nq);have HN2:=hi_ (HN0.o nq);clear HN0;clear H1 HO1 HB1 c0 c1 c2 hlt o0 o1 o2 o3 o4 o5 o6 o7 hlo;generalize (w.alloc (.cells #[.int .u8 o.kind,.int .u8 o.a,.int .u8 o.b,.int .u8 o.c,.string ⟨o.s.toArray⟩,.string ⟨o.t.toArray⟩,.int .i8 o.n,.int .i8 o.k] 65)).drewN nq=w2 at *;obtain⟨c0,c1,c2,hlt⟩:=cells3 H2.o.blk;obtain⟨o0,o1,o2,o3,o4,o5,o6,o7⟩:=bf_ HO2.o;have hlo:=HO2.o.lt;rw[hv]at c2;have QH:=hi_ (fun(i:Nat) W (hb:Below w2.heap.size w2 W)=>hv_ X.M i W (H2.o.model.below hb));have HSm:=hi_ h.sim;have HV:=hi_ hv;have hst1:=ek_ (lim:=some 64) (m:=X.m) hk;have hst2:=ek_ (lim:=none) (m:=X.M.m) (o:=o) hk
 have hat:o.at_ X.M.m=o.at_ X.m:=by unfold Op.at_;rw[h.sim.len]
 have hbt:o.bt X.M.m=o.bt X.m:=by unfold Op.bt;rw[h.sim.len]
 have hct:o.ct X.M.m=o.ct X.m:=by unfold Op.ct;rw[h.sim.len]
 have hho:hM_ X.M.m (o.ct X.m)=hM_ X.m (o.ct X.m):=by
  cases o.ct X.m with
  |none=>rfl
  |some i=>exact(h.sim.has i).symm
 rw[hat,hbt,hct,hho,<-h.sim.has,<-h.sim.has]at hst2;obtain⟨a,ha⟩:∃a,a=o.at_ X.m:=⟨_,rfl⟩;obtain⟨b,hb⟩:∃b,b=o.bt X.m:=⟨_,rfl⟩;obtain⟨c,hc⟩:∃c,c=o.ct X.m:=⟨_,rfl⟩;rw[<-ha]at hA;rw[<-ha,<-hb,<-hc]at hst1 hst2;rw[<-ha]at n1 ⊢;rw[<-hb]at n2 ⊢;rw[<-hc]at n3 ⊢;have HSt1:=hi_ hst1;have HSt2:=hi_ hst2;clear hst1 hst2 hat hbt hct hho ha hb hc h hF e1 e2 e3 wa1 wa2 wa3 wn1 wc1 hn0 hn00 hn1 hn11 q1 q2;go_wp2_with fail
 refine(QH.o a w2 (br_)).mono ?_;rintro e w2' ⟨rfl,rfl⟩;rw[<-HSm.o.has];have hza:=H2.o.toMid.get hv n1;have hzb:=H2.o.toMid.get hv n2;have hgl:=hza.2.2;have hai:(a:Int)<(X.m.length:Int):=by omega
 have ha0:(0:Int)<=(a:Int):=by omega
 have hbi:(b:Int)<(X.m.length:Int):=by omega
 have hb0:(0:Int)<=(b:Int):=by omega
 have D0:=lc_ c0 hlt;have D2:=lc_ c2 hlt;have DA:=fun d:Later w2.heap.size w2=>Later.cell hza.1 hgl d;have DB:=fun d:Later w2.heap.size w2=>Later.cell hzb.1 hgl d;have QK:=hi_ (fun W (hb:Below w2.heap.size w2 W)=>ck_ (H2.o.below hb).toMid hl c n3);have hBa:=c2_ H2.o a;have hBb:=c2_ H2.o b;have hBc:=ga_ H2.o c;rw[hA];have HR1:Hd (G.step (some 64) X.m o=([],6,X.m)):=hi_ (by rw[HSt1.o];rw[hA];rfl);have HR2:Hd (G.step none X.M.m o=([],6,X.M.m)):=hi_ (by rw[HSt2.o];rw[hA];rfl);have QN:=hi_ (fun W (hb:Below w2.heap.size w2 W)=>er_ X.T (hv1 X.T X.pos X.m b) (hv1 X.T X.pos X.m a) (hvO X c) W (H2.o.below hb).tree.mem (by omega) (by omega) (by omega) (by omega) (by omega) (by omega) (by rw[bX_ hA];exact Or.inr (Or.inl (cm_ H2.o.tree.fits 1))));clear hA;go_upto_region 33 with fail
 refine ao_ 21 _ _ (by kernel_rfl) (by kernel_rfl) rfl ?_;simp only[List.take_succ_cons,List.take_zero];repeat (go_big_quiet_step ((go_at_call 61;exact Calls.later_same (QK.o _ (Later.h _)))))
 refine wq_ (fun dq=>?_);intro K hK;have HD3:=hi_ dq.h;clear D0 D2 DA DB;generalize dq.w=w3 at *;go_simp
 go_at_call 60
 refine(QN.o w3 HD3.o).mono ?_;rintro e w4 ⟨rfl,hb4⟩;have HB4:=bt_ HD3 hb4;go_simp
 refine hK _ _ (as_ ?_);clear hK K;repeat (go_big_quiet_step (fail))
 refine wq_ (fun dq=>?_);have HB5:=bt_ HB4 dq.h;generalize dq.w=w5 at *;go_wp2_with fail
 refine bodyPost_ret (v:=.tuple #[.slice none 0 0,.bool true]) (by simp[results,Tryz.results24,go_sem]) rfl ⟨_,_,X,rfl,H2.o.below HB5.o,rfl,rfl,rfl,(fun _ _=>rfl),by rw[HR1.o],by rw[HR2.o],by rw[HR1.o];exact aD_.nil _ _ _ _,fun _ _=>rfl⟩
theorem do9_2(w0 w:World)(X:Tw)(o:G.Op)(k:Nat)(h:bu_ w0 w X)(hF:Fit w0 X o k)(hk:o.kind % 10=9)(hha:has X.m (o.at_ X.m)=true) :
  Calls Tryz.prog 24 #[.pointer (some ⟨X.tb,0,none⟩),opV o] w fun e w'=>jB_ w0 w X o e w':=by
 have hl:=h.pos_len;obtain⟨e1,e2,e3,n1,n2,n3,q1,q2⟩:=cv_ o hl hF.few hF.u8 X.m rfl;have HOV:=ds_ o;rw[HOV.o];have ek:Int.tmod (o.kind:Int) 10=9:=by rw[show(10:Int)=((10:Nat):Int)from rfl,<-Int.ofNat_tmod,hk];rfl
 obtain⟨hb1,HO1,HN0⟩:=dr_ w o;have H1:=hi_ (h.below hb1);have HB1:=hi_ hb1;obtain⟨g,cap,hv,_,hcap,_⟩:=h.toMid.cells hl;have HF:=hi_ hF;obtain⟨⟨ha1,ha2,ha3,hfw⟩,⟨wa1,wa2,wa3⟩,wn1,wc1,hn0,hn00,hn1,hn11⟩:=bZ_ hF hl;clear hb1 HOV
 go_enter Tryz.func24,Tryz.ntmps24
 obtain⟨c0,c1,c2,hlt⟩:=cells3 H1.o.blk;obtain⟨o0,o1,o2,o3,o4,o5,o6,o7⟩:=bf_ HO1.o;have hlo:=HO1.o.lt;rw[hv]at c2;go_upto_region 2 with fail
 go_quiet (fail)
 rw[kC_ rfl hfw];have H2:=hi_ (H1.o.below (bdN (br_) nq));have HO2:=hi_ (HO1.o.below (bdN (br_) nq));have HB2:=hi_ (bdN HB1.o nq);have HN2:=hi_ (HN0.o nq);clear HN0;clear H1 HO1 HB1 c0 c1 c2 hlt o0 o1 o2 o3 o4 o5 o6 o7 hlo;generalize (w.alloc (.cells #[.int .u8 o.kind,.int .u8 o.a,.int .u8 o.b,.int .u8 o.c,.string ⟨o.s.toArray⟩,.string ⟨o.t.toArray⟩,.int .i8 o.n,.int .i8 o.k] 65)).drewN nq=w2 at *;obtain⟨c0,c1,c2,hlt⟩:=cells3 H2.o.blk;obtain⟨o0,o1,o2,o3,o4,o5,o6,o7⟩:=bf_ HO2.o;have hlo:=HO2.o.lt;rw[hv]at c2;have QH:=hi_ (fun(i:Nat) W (hb:Below w2.heap.size w2 W)=>hv_ X.M i W (H2.o.model.below hb));have HSm:=hi_ h.sim;have HV:=hi_ hv;have hst1:=jJ_ (lim:=some 64) (m:=X.m) hk;have hst2:=jJ_ (lim:=none) (m:=X.M.m) (o:=o) hk
 have hat:o.at_ X.M.m=o.at_ X.m:=by unfold Op.at_;rw[h.sim.len]
 rw[hat,<-h.sim.has]at hst2;obtain⟨a,ha⟩:∃a,a=o.at_ X.m:=⟨_,rfl⟩;rw[<-ha]at hst1 hst2 n1 hha ⊢;have HSt1:=hi_ hst1;have HSt2:=hi_ hst2;clear hst1 hst2 hat ha h hF e1 e2 e3 wa1 wa2 wa3 wn1 wc1 hn0 hn00 hn1 hn11 q1 q2;go_wp2_with fail
 refine(QH.o a w2 (br_)).mono ?_;rintro e w2' ⟨rfl,rfl⟩;rw[<-HSm.o.has];have hz:=H2.o.toMid.get hv n1;have hgl:=hz.2.2;have hai:(a:Int)<(X.m.length:Int):=by omega
 have ha0:(0:Int)<=(a:Int):=by omega
 have D0:=lc_ c0 hlt;have D2:=lc_ c2 hlt;rw[da_ hha]at hz;have DZ:=fun d:Later w2.heap.size w2=>Later.cell hz.1 hgl d;have HR1:Hd (G.step (some 64) X.m o=([],cA_ X.m a)):=hi_ (by rw[HSt1.o,if_neg (by rw[hha];simp)]);have HR2:Hd (G.step none X.M.m o=([],cA_ X.M.m a)):=hi_ (by rw[HSt2.o,if_neg (by rw[hha];simp)]);have HKs:=hi_ HF.o.keep;rw[HR1.o,HR2.o]at HKs;have HCd:=hi_ (lb_ HSm.o a);have QN:=hi_ (fun W (hb:Below w2.heap.size w2 W)=>drop2_ X.T X.m X.pos a W (H2.o.below hb).tree hha (by omega));have QM:=hi_ (fun W (hM:ac_ W X.M)=>mDrop X.M a W hM (H2.o.sim.wf H2.o.tree.fits.wf) (by rw[<-X.M.m_len,<-HSm.o.len];exact n1));rw[hha];clear hha HSt1 HSt2;go_upto_region 8 with fail
 refine ao_ 11 _ _ (by kernel_rfl) (by kernel_rfl) rfl ?_;simp only[List.take_succ_cons,List.take_zero];repeat (go_big_quiet_step (fail))
 refine wq_ (fun dq=>?_);intro K hK;have HD3:=hi_ dq.h;clear D0 D2 DZ;generalize dq.w=w3 at *;go_simp
 go_at_call 72
 refine(QN.o w3 HD3.o).mono ?_;rintro e w4 ⟨T4,rfl,hf4,hg4,ht4,hs4⟩;have H3:=hi_ (H2.o.below HD3.o);have HP4:=hi_ (⟨hf4,hg4,ht4,hs4⟩:_/\_/\_/\_);have HM4:=hi_ (H3.o.mid hf4);clear hf4 hg4 ht4 hs4 QN;go_simp
 refine hK _ _ (as_ ?_);clear hK K;repeat (go_big_quiet_step (fail))
 refine wq_ (fun dq=>?_);have HD5:=hi_ dq.h;generalize dq.w=w5 at *;have HM5:=hi_ (HM4.o.below HD5.o);obtain⟨c0',c1',c2',hlt'⟩:=cells3 HM5.o.blk;rw[HV.o]at c2';go_wp2_with fail
 refine(QM.o w5 HM5.o.model).mono ?_;rintro e wB ⟨M6,rfl,hf6,hm6,hme6,hl6⟩;have HFt:=hi_ (HP4.o.1.below_ HD5.o);have HTr:=hi_ (HP4.o.2.2.1.below HD5.o);have HFm:Hd (H.Frame X.M.foot w5 wB):=hi_ (hf6.wide (fun k hk=>by rw[hk];exact Or.inr (Or.inl rfl)));have HM6:=hi_ hm6;have HMe:=hi_ hme6;have HL6:=hi_ hl6;have HSm6:Hd (Sim (cA_ X.m a).2 M6.m):=hi_ (by rw[HMe.o];exact HKs.o);have HSw:=hi_ (fun W (fr:H.Frame (fun k=>k=g) wB W)=>H3.o.sweep HV.o HFt.o HFm.o HM6.o HL6.o fr);have HR0:=hi_ (H3.o.row0 HFt.o HFm.o (hv1 T4 X.pos (cA_ X.m a).2));have HKp:Hd (∀j,j<X.m.length->has M6.m j=true->hv1 T4 X.pos (cA_ X.m a).2 j=hv1 X.T X.pos X.m j):=hi_ (fun j hj hh=>by
  rw[<-HSm6.o.has]at hh;unfold hv1 hd;rw[if_pos hh,if_pos (m3_ a hj hh),HP4.o.2.1.bs,HP4.o.2.1.st])
 have HGn:Hd (∀j,has M6.m j=false->hv1 T4 X.pos (cA_ X.m a).2 j=-1):=hi_ (fun j hj=>by
  unfold hv1;rw[HSm6.o.has,if_neg (by rw[hj];simp)])
 have HEnd:=hi_ (fun W (fr:H.Frame (fun k=>k=g) wB W) hro=>H3.o.dropped HV.o HFt.o HP4.o.2.1 HTr.o HFm.o HM6.o HL6.o HSm6.o (it_ X.m a) HP4.o.2.2.2 fr hro);have HTb:Hd (T4.bs=X.T.bs/\T4.st=X.T.st):=hi_ ⟨HP4.o.2.1.bs,HP4.o.2.1.st⟩;have hml:0<(cA_ X.m a).2.length:=by rw[it_];exact hl
 have Hml:=hi_ hml;rw[<-HCd.o];generalize hcode:(cA_ X.m a).1=z at *;clear hf6 hm6 hme6 hl6 QM HP4 HM4 HM5 HD5 HD3 H3 c0' c1' c2' hlt' hml HCd HKs hcode;clear c0 c1 c2 hlt o0 o1 o2 o3 o4 o5 o6 o7 hlo hz hgl;go_wp2_with fail
 go_loopw [40] (fun v40 wr => ∃ (j : Nat), v40 = .int .i64 (j : Nat) ∧ j ≤ X.m.length ∧ Hd (H.Frame (fun k => k = g) wB wr) ∧ Hd (wr.ownsRow X.B 3 1 X.hv X.m.length (bB_ (gA_ (hv1 T4 X.pos (cA_ X.m a).2) (hv1 X.T X.pos X.m) X.m.length j))))
   (fun v40 _=>X.m.length-(Go.RowKit.intOf v40).toNat)
 case atStart=>exact⟨0,rfl,Nat.zero_le _,hi_ (H.Frame.refl _ _),HR0⟩
 obtain⟨j,rfl,hj,HFr,HRo⟩:=hrel
 rcases Nat.lt_or_ge j X.m.length with hlt|hge
 ·have hii:(j:Int)<(X.m.length:Int):=by omega
  have hj0:(0:Int)<=(j:Int):=by omega
  obtain⟨hmr,hbr⟩:=HSw.o wr HFr.o;obtain⟨c0',c1',c2',hlt'⟩:=cells3 hbr;obtain⟨⟨u,hcu⟩,hfu⟩:=gP_ HV.o HRo.o hlt;have Q:=hi_ (hv_ M6 j wr hmr);have HSame:=hi_ (HKp.o j hlt);have HGone:=hi_ (HGn.o j);clear hmr hbr;go_wp2_with fail
  refine Q.o.mono ?_;rintro e wr' ⟨rfl,rfl⟩
  cases hg:has M6.m j with
  |true=>
   have HRo2:=hi_ (show wr.ownsRow X.B 3 1 X.hv X.m.length (bB_ (gA_ (hv1 T4 X.pos (cA_ X.m a).2) (hv1 X.T X.pos X.m) X.m.length (j+1))) by rw[h7_ _ _ _ _ (HSame.o hg)];exact HRo.o);clear hg;go_wp2_with fail
   go_roundw
   case rel=>exact⟨j+1,by go_num,by omega,HFr,HRo2⟩
   simp[Go.RowKit.intOf];omega
  |false=>
   have HRo2:=hi_ (hR_ HV.o HRo.o hlt (HGone.o hg));have HFr2:=hi_ (HFr.o.set (g:=g) (Or.inl rfl) j (.int .i64 (-1)));clear hg;go_wp2_with fail
   go_roundw
   case rel=>exact⟨j+1,by go_num,by omega,HFr2,HRo2⟩
   simp[Go.RowKit.intOf];omega
 have hje:j=X.m.length:=by omega
 subst hje;have hnot:¬((X.m.length:Nat):Int)<((X.m.length:Nat):Int):=by omega
 have HX:=hi_ (HEnd.o wr HFr.o HRo.o);have QS:=hi_ (cx_ HX.o.toMid Hml.o [] 0 0 (.slice none 0 0) (.slice none 0 0) (aD_.nil _ _ _ _) (World.ownsRow_nil _ _ _ _) (by simp) (fun r hr=>by cases hr));go_wp2_with fail
 refine QS.o.mono ?_;rintro e w7 ⟨rfl,hb7⟩;have HX7:=hi_ (HX.o.below hb7);clear hb7 QS;go_wp2_with fail
 refine bodyPost_ret (v:=.tuple #[.slice none 0 0,.bool true]) (by simp[results,Tryz.results24,go_sem]) rfl ⟨_,_,_,rfl,HX7.o,rfl,HTb.o.1,HTb.o.2,(fun _ _=>rfl),by rw[HR1.o],by rw[HR2.o];exact HMe.o,by rw[HR1.o];exact aD_.nil _ _ _ _,fun _ _=>rfl⟩
end A
end
end Go.Proofs.YtinphfpdfodkkaaGreatDoor
