/- Texts. -/
import Derived.Test.YtinphfpdfodkkaaGreatDoorP39
set_option linter.unusedVariables false
set_option linter.unusedSimpArgs false
set_option maxHeartbeats 8000000
set_option maxRecDepth 100000
namespace Go.Proofs.YtinphfpdfodkkaaGreatDoor
section
open Go.RowKit Go.Sort
namespace A
open H G R
theorem do9_2(w0 w:World)(X:Tw)(o:G.Op)(k:Nat)(h:be_ w0 w X)(hF:Fit w0 X o k)(hk:o.kind % 10=9)(hha:has X.m (o.at_ X.m)=true) :
  Calls Tryz.prog 24 #[.pointer (some ⟨X.tb,0,none⟩),opV o] w fun e w'=>i2_ w0 w X o e w':=by
 have hl:=h.pos_len;obtain⟨e1,e2,e3,n1,n2,n3,q1,q2⟩:=cn_ o hl hF.few hF.u8 X.m rfl;have HOV:=di_ o;rw[HOV.out];have ek:Int.tmod (o.kind:Int) 10=9:=by rw[show(10:Int)=((10:Nat):Int)from rfl,<-Int.ofNat_tmod,hk];rfl
 obtain⟨hb1,HO1,HN0⟩:=dh_ w o;have H1:=hi_ (h.below hb1);have HB1:=hi_ hb1;obtain⟨g,cap,hv,_,hcap,_⟩:=h.toMid.cells hl;have HF:=hi_ hF;obtain⟨⟨ha1,ha2,ha3,hfw⟩,⟨wa1,wa2,wa3⟩,wn1,wc1,hn0,hn00,hn1,hn11⟩:=bW_ hF hl;clear hb1 HOV
 go_enter Tryz.func24,Tryz.ntmps24
 obtain⟨c0,c1,c2,hlt⟩:=cells3 H1.out.blk;obtain⟨o0,o1,o2,o3,o4,o5,o6,o7⟩:=a8_ HO1.out;have hlo:=HO1.out.lt;rw[hv]at c2;go_upto_region 2 with fail
 go_quiet (fail)
 rw[jY_ rfl hfw];have H2:=hi_ (H1.out.below (bdN (br_) nq));have HO2:=hi_ (HO1.out.below (bdN (br_) nq));have HB2:=hi_ (bdN HB1.out nq);have HN2:=hi_ (HN0.out nq);clear HN0;clear H1 HO1 HB1 c0 c1 c2 hlt o0 o1 o2 o3 o4 o5 o6 o7 hlo;generalize (w.alloc (.cells #[.int .u8 o.kind,.int .u8 o.a,.int .u8 o.b,.int .u8 o.c,.string ⟨o.s.toArray⟩,.string ⟨o.t.toArray⟩,.int .i8 o.n,.int .i8 o.k] 65)).drewN nq=w2 at *;obtain⟨c0,c1,c2,hlt⟩:=cells3 H2.out.blk;obtain⟨o0,o1,o2,o3,o4,o5,o6,o7⟩:=a8_ HO2.out;have hlo:=HO2.out.lt;rw[hv]at c2;have QH:=hi_ (fun(i:Nat) W (hb:Below w2.heap.size w2 W)=>gf_ X.M i W (H2.out.model.below hb));have HSm:=hi_ h.sim;have HV:=hi_ hv;have hst1:=ja_ (lim:=some 64) (m:=X.m) hk;have hst2:=ja_ (lim:=none) (m:=X.M.m) (o:=o) hk
 have hat:o.at_ X.M.m=o.at_ X.m:=by unfold Op.at_;rw[h.sim.len]
 rw[hat,<-h.sim.has]at hst2;obtain⟨a,ha⟩:∃a,a=o.at_ X.m:=⟨_,rfl⟩;rw[<-ha]at hst1 hst2 n1 hha ⊢;have HSt1:=hi_ hst1;have HSt2:=hi_ hst2;clear hst1 hst2 hat ha h hF e1 e2 e3 wa1 wa2 wa3 wn1 wc1 hn0 hn00 hn1 hn11 q1 q2;go_wp2_with fail
 refine(QH.out a w2 (br_)).mono ?_;rintro e w2' ⟨rfl,rfl⟩;rw[<-HSm.out.has];have hz:=H2.out.toMid.get hv n1;have hgl:=hz.2.2;have hai:(a:Int)<(X.m.length:Int):=by omega
 have ha0:(0:Int)<=(a:Int):=by omega
 have D0:=lc_ c0 hlt;have D2:=lc_ c2 hlt;rw[cE_ hha]at hz;have DZ:=fun d:Later w2.heap.size w2=>Later.cell hz.1 hgl d;have HR1:Hid (G.step (some 64) X.m o=([],cr_ X.m a)):=hi_ (by rw[HSt1.out,if_neg (by rw[hha];simp)]);have HR2:Hid (G.step none X.M.m o=([],cr_ X.M.m a)):=hi_ (by rw[HSt2.out,if_neg (by rw[hha];simp)]);have HKs:=hi_ HF.out.keep;rw[HR1.out,HR2.out]at HKs;have HCd:=hi_ (km_ HSm.out a);have QN:=hi_ (fun W (hb:Below w2.heap.size w2 W)=>drop2_ X.T X.m X.pos a W (H2.out.below hb).tree hha (by omega));have QM:=hi_ (fun W (hM:ab_ W X.M)=>mDrop X.M a W hM (H2.out.sim.wf H2.out.tree.fits.wf) (by rw[<-X.M.m_len,<-HSm.out.len];exact n1));rw[hha];clear hha HSt1 HSt2;go_upto_region 8 with fail
 refine an_ 11 _ _ (by kernel_rfl) (by kernel_rfl) rfl ?_;simp only[List.take_succ_cons,List.take_zero];repeat (go_big_quiet_step (fail))
 refine wq_ (fun dq=>?_);intro K hK;have HD3:=hi_ dq.h;clear D0 D2 DZ;generalize dq.w=w3 at *;go_simp
 go_at_call 72
 refine(QN.out w3 HD3.out).mono ?_;rintro e w4 ⟨T4,rfl,hf4,hg4,ht4,hs4⟩;have H3:=hi_ (H2.out.below HD3.out);have HP4:=hi_ (⟨hf4,hg4,ht4,hs4⟩:_/\_/\_/\_);have HM4:=hi_ (H3.out.mid hf4);clear hf4 hg4 ht4 hs4 QN;go_simp
 refine hK _ _ (ar_ ?_);clear hK K;repeat (go_big_quiet_step (fail))
 refine wq_ (fun dq=>?_);have HD5:=hi_ dq.h;generalize dq.w=w5 at *;have HM5:=hi_ (HM4.out.below HD5.out);obtain⟨c0',c1',c2',hlt'⟩:=cells3 HM5.out.blk;rw[HV.out]at c2';go_wp2_with fail
 refine(QM.out w5 HM5.out.model).mono ?_;rintro e wB ⟨M6,rfl,hf6,hm6,hme6,hl6⟩;have HFt:=hi_ (HP4.out.1.below_ HD5.out);have HTr:=hi_ (HP4.out.2.2.1.below HD5.out);have HFm:Hid (H.Frame X.M.foot w5 wB):=hi_ (hf6.wide (fun k hk=>by rw[hk];exact Or.inr (Or.inl rfl)));have HM6:=hi_ hm6;have HMe:=hi_ hme6;have HL6:=hi_ hl6;have HSm6:Hid (Sim (cr_ X.m a).2 M6.m):=hi_ (by rw[HMe.out];exact HKs.out);have HSw:=hi_ (fun W (fr:H.Frame (fun k=>k=g) wB W)=>H3.out.sweep HV.out HFt.out HFm.out HM6.out HL6.out fr);have HR0:=hi_ (H3.out.row0 HFt.out HFm.out (hv1 T4 X.pos (cr_ X.m a).2));have HKp:Hid (∀j,j<X.m.length->has M6.m j=true->hv1 T4 X.pos (cr_ X.m a).2 j=hv1 X.T X.pos X.m j):=hi_ (fun j hj hh=>by
  rw[<-HSm6.out.has]at hh;unfold hv1 hd;rw[if_pos hh,if_pos (l8_ a hj hh),HP4.out.2.1.bs,HP4.out.2.1.st])
 have HGn:Hid (∀j,has M6.m j=false->hv1 T4 X.pos (cr_ X.m a).2 j=-1):=hi_ (fun j hj=>by
  unfold hv1;rw[HSm6.out.has,if_neg (by rw[hj];simp)])
 have HEnd:=hi_ (fun W (fr:H.Frame (fun k=>k=g) wB W) hro=>H3.out.dropped HV.out HFt.out HP4.out.2.1 HTr.out HFm.out HM6.out HL6.out HSm6.out (h1_ X.m a) HP4.out.2.2.2 fr hro);have HTb:Hid (T4.bs=X.T.bs/\T4.st=X.T.st):=hi_ ⟨HP4.out.2.1.bs,HP4.out.2.1.st⟩;have hml:0<(cr_ X.m a).2.length:=by rw[h1_];exact hl
 have Hml:=hi_ hml;rw[<-HCd.out];generalize hcode:(cr_ X.m a).1=z at *;clear hf6 hm6 hme6 hl6 QM HP4 HM4 HM5 HD5 HD3 H3 c0' c1' c2' hlt' hml HCd HKs hcode;clear c0 c1 c2 hlt o0 o1 o2 o3 o4 o5 o6 o7 hlo hz hgl;go_wp2_with fail
 go_loopw [40] (fun v40 wr => ∃ (j : Nat), v40 = .int .i64 (j : Nat) ∧ j ≤ X.m.length ∧ Hid (H.Frame (fun k => k = g) wB wr) ∧ Hid (wr.ownsRow X.B 3 1 X.hv X.m.length (bw_ (ge_ (hv1 T4 X.pos (cr_ X.m a).2) (hv1 X.T X.pos X.m) X.m.length j))))
   (fun v40 _=>X.m.length-(Go.RowKit.intOf v40).toNat)
 case atStart=>exact⟨0,rfl,Nat.zero_le _,hi_ (H.Frame.refl _ _),HR0⟩
 case round=>
  obtain⟨j,rfl,hj,HFr,HRo⟩:=hrel
  rcases Nat.lt_or_ge j X.m.length with hlt|hge
  ·have hii:(j:Int)<(X.m.length:Int):=by omega
   have hj0:(0:Int)<=(j:Int):=by omega
   obtain⟨hmr,hbr⟩:=HSw.out wr HFr.out;obtain⟨c0',c1',c2',hlt'⟩:=cells3 hbr;obtain⟨⟨u,hcu⟩,hfu⟩:=gs_ HV.out HRo.out hlt;have Q:=hi_ (gf_ M6 j wr hmr);have HSame:=hi_ (HKp.out j hlt);have HGone:=hi_ (HGn.out j);clear hmr hbr;go_wp2_with fail
   refine Q.out.mono ?_;rintro e wr' ⟨rfl,rfl⟩
   cases hg:has M6.m j with
   |true=>
    have HRo2:=hi_ (show wr.ownsRow X.B 3 1 X.hv X.m.length (bw_ (ge_ (hv1 T4 X.pos (cr_ X.m a).2) (hv1 X.T X.pos X.m) X.m.length (j+1))) by rw[hF_ _ _ _ _ (HSame.out hg)];exact HRo.out);clear hg;go_wp2_with fail
    go_roundw
    case rel=>exact⟨j+1,by go_num,by omega,HFr,HRo2⟩
    case measure=>simp[Go.RowKit.intOf];omega
   |false=>
    have HRo2:=hi_ (hp_ HV.out HRo.out hlt (HGone.out hg));have HFr2:=hi_ (HFr.out.set (g:=g) (Or.inl rfl) j (.int .i64 (-1)));clear hg;go_wp2_with fail
    go_roundw
    case rel=>exact⟨j+1,by go_num,by omega,HFr2,HRo2⟩
    case measure=>simp[Go.RowKit.intOf];omega
  ·have hje:j=X.m.length:=by omega
   subst hje;have hnot:¬((X.m.length:Nat):Int)<((X.m.length:Nat):Int):=by omega
   have HX:=hi_ (HEnd.out wr HFr.out HRo.out);have QS:=hi_ (cp_ HX.out.toMid Hml.out [] 0 0 (.slice none 0 0) (.slice none 0 0) (ax_.nil _ _ _ _) (World.ownsRow_nil _ _ _ _) (by simp) (fun r hr=>by cases hr));go_wp2_with fail
   refine QS.out.mono ?_;rintro e w7 ⟨rfl,hb7⟩;have HX7:=hi_ (HX.out.below hb7);clear hb7 QS;go_wp2_with fail
   refine bodyPost_ret (v:=.tuple #[.slice none 0 0,.bool true]) (by simp[results,Tryz.results24,go_sem]) rfl ⟨_,_,_,rfl,HX7.out,rfl,HTb.out.1,HTb.out.2,(fun _ _=>rfl),by rw[HR1.out],by rw[HR2.out];exact HMe.out,by rw[HR1.out];exact ax_.nil _ _ _ _,fun _ _=>rfl⟩
theorem do9_1(w0 w:World)(X:Tw)(o:G.Op)(k:Nat)(h:be_ w0 w X)(hF:Fit w0 X o k)(hk:o.kind % 10=9)(hha:has X.m (o.at_ X.m)=false) :
  Calls Tryz.prog 24 #[.pointer (some ⟨X.tb,0,none⟩),opV o] w fun e w'=>i2_ w0 w X o e w':=by
 have hl:=h.pos_len;obtain⟨e1,e2,e3,n1,n2,n3,q1,q2⟩:=cn_ o hl hF.few hF.u8 X.m rfl;have HOV:=di_ o;rw[HOV.out];have ek:Int.tmod (o.kind:Int) 10=9:=by rw[show(10:Int)=((10:Nat):Int)from rfl,<-Int.ofNat_tmod,hk];rfl
 obtain⟨hb1,HO1,HN0⟩:=dh_ w o;have H1:=hi_ (h.below hb1);have HB1:=hi_ hb1;obtain⟨g,cap,hv,_,hcap,_⟩:=h.toMid.cells hl;have HF:=hi_ hF;obtain⟨⟨ha1,ha2,ha3,hfw⟩,⟨wa1,wa2,wa3⟩,wn1,wc1,hn0,hn00,hn1,hn11⟩:=bW_ hF hl;clear hb1 HOV
 go_enter Tryz.func24,Tryz.ntmps24
 obtain⟨c0,c1,c2,hlt⟩:=cells3 H1.out.blk;obtain⟨o0,o1,o2,o3,o4,o5,o6,o7⟩:=a8_ HO1.out;have hlo:=HO1.out.lt;rw[hv]at c2;go_upto_region 2 with fail
 go_quiet (fail)
 rw[jY_ rfl hfw];have H2:=hi_ (H1.out.below (bdN (br_) nq));have HO2:=hi_ (HO1.out.below (bdN (br_) nq));have HB2:=hi_ (bdN HB1.out nq);have HN2:=hi_ (HN0.out nq);clear HN0;clear H1 HO1 HB1 c0 c1 c2 hlt o0 o1 o2 o3 o4 o5 o6 o7 hlo;generalize (w.alloc (.cells #[.int .u8 o.kind,.int .u8 o.a,.int .u8 o.b,.int .u8 o.c,.string ⟨o.s.toArray⟩,.string ⟨o.t.toArray⟩,.int .i8 o.n,.int .i8 o.k] 65)).drewN nq=w2 at *;obtain⟨c0,c1,c2,hlt⟩:=cells3 H2.out.blk;obtain⟨o0,o1,o2,o3,o4,o5,o6,o7⟩:=a8_ HO2.out;have hlo:=HO2.out.lt;rw[hv]at c2;have QH:=hi_ (fun(i:Nat) W (hb:Below w2.heap.size w2 W)=>gf_ X.M i W (H2.out.model.below hb));have HSm:=hi_ h.sim;have HV:=hi_ hv;have hst1:=ja_ (lim:=some 64) (m:=X.m) hk;have hst2:=ja_ (lim:=none) (m:=X.M.m) (o:=o) hk
 have hat:o.at_ X.M.m=o.at_ X.m:=by unfold Op.at_;rw[h.sim.len]
 rw[hat,<-h.sim.has]at hst2;obtain⟨a,ha⟩:∃a,a=o.at_ X.m:=⟨_,rfl⟩;rw[<-ha]at hst1 hst2 n1 hha ⊢;have HSt1:=hi_ hst1;have HSt2:=hi_ hst2;clear hst1 hst2 hat ha h hF e1 e2 e3 wa1 wa2 wa3 wn1 wc1 hn0 hn00 hn1 hn11 q1 q2;go_wp2_with fail
 refine(QH.out a w2 (br_)).mono ?_;rintro e w2' ⟨rfl,rfl⟩;rw[<-HSm.out.has];have hz:=H2.out.toMid.get hv n1;have hgl:=hz.2.2;have hai:(a:Int)<(X.m.length:Int):=by omega
 have ha0:(0:Int)<=(a:Int):=by omega
 have D0:=lc_ c0 hlt;have D2:=lc_ c2 hlt;rw[cj_ hha]at hz;have DZ:=fun d:Later w2.heap.size w2=>Later.cell hz.1 hgl d;have HR1:Hid (G.step (some 64) X.m o=([],6,X.m)):=hi_ (by rw[HSt1.out,if_pos hha]);have HR2:Hid (G.step none X.M.m o=([],6,X.M.m)):=hi_ (by rw[HSt2.out,if_pos hha]);have QN:=hi_ (fun W (hb:Below w2.heap.size w2 W)=>l7_ X.T (-1) W (H2.out.below hb).tree.mem (by omega) (by omega) (cG_ H2.out.tree.fits 1));rw[hha];clear hha;go_upto_region 8 with fail
 refine an_ 11 _ _ (by kernel_rfl) (by kernel_rfl) rfl ?_;simp only[List.take_succ_cons,List.take_zero];repeat (go_big_quiet_step (fail))
 refine wq_ (fun dq=>?_);intro K hK;have HD3:=hi_ dq.h;clear D0 D2 DZ;generalize dq.w=w3 at *;go_simp
 go_at_call 72
 refine(QN.out w3 HD3.out).mono ?_;rintro e w4 ⟨rfl,hb4⟩;have HB4:=bt_ HD3 hb4;go_simp
 refine hK _ _ (ar_ ?_);clear hK K;repeat (go_big_quiet_step (fail))
 refine wq_ (fun dq=>?_);have HB5:=bt_ HB4 dq.h;generalize dq.w=wB at *;have H5:=hi_ (H2.out.below HB5.out);have HSw:=hi_ (fun W (fr:H.Frame (fun k=>k=g) wB W)=>H5.out.sweep HV.out (H.Frame.refl _ _) (H.Frame.refl _ _) H5.out.model (aO_.refl _ _) fr);have HR0:=hi_ (H5.out.row0 (H.Frame.refl _ _) (H.Frame.refl _ _) (hv1 X.T X.pos X.m));have HKp:Hid (∀j,j<X.m.length->has X.M.m j=true->hv1 X.T X.pos X.m j=hv1 X.T X.pos X.m j):=hi_ (fun _ _ _=>rfl);have HGn:Hid (∀j,has X.M.m j=false->hv1 X.T X.pos X.m j=-1):=hi_ (fun j hj=>cj_ (by rw[HSm.out.has];exact hj));have HEnd:=hi_ (fun W (fr:H.Frame (fun k=>k=g) wB W) hro=>H5.out.dropped HV.out (H.Frame.refl _ _) (Goes.refl _ _) H5.out.tree (H.Frame.refl _ _) H5.out.model (aO_.refl _ _) HSm.out rfl rfl fr hro);clear c0 c1 c2 hlt o0 o1 o2 o3 o4 o5 o6 o7 hlo hz hgl
 go_wp2_with fail
 go_loopw [40] (fun v40 wr => ∃ (j : Nat), v40 = .int .i64 (j : Nat) ∧ j ≤ X.m.length ∧ Hid (H.Frame (fun k => k = g) wB wr) ∧ Hid (wr.ownsRow X.B 3 1 X.hv X.m.length (bw_ (ge_ (hv1 X.T X.pos X.m) (hv1 X.T X.pos X.m) X.m.length j))))
   (fun v40 _=>X.m.length-(Go.RowKit.intOf v40).toNat)
 case atStart=>exact⟨0,rfl,Nat.zero_le _,hi_ (H.Frame.refl _ _),HR0⟩
 case round=>
  obtain⟨j,rfl,hj,HFr,HRo⟩:=hrel
  rcases Nat.lt_or_ge j X.m.length with hlt|hge
  ·have hii:(j:Int)<(X.m.length:Int):=by omega
   have hj0:(0:Int)<=(j:Int):=by omega
   obtain⟨hmr,hbr⟩:=HSw.out wr HFr.out;obtain⟨c0',c1',c2',hlt'⟩:=cells3 hbr;obtain⟨⟨u,hcu⟩,hfu⟩:=gs_ HV.out HRo.out hlt;have Q:=hi_ (gf_ X.M j wr hmr);have HSame:=hi_ (HKp.out j hlt);have HGone:=hi_ (HGn.out j);clear hmr hbr;go_wp2_with fail
   refine Q.out.mono ?_;rintro e wr' ⟨rfl,rfl⟩
   cases hg:has X.M.m j with
   |true=>
    have HRo2:=hi_ (show wr.ownsRow X.B 3 1 X.hv X.m.length (bw_ (ge_ (hv1 X.T X.pos X.m) (hv1 X.T X.pos X.m) X.m.length (j+1))) by rw[hF_ _ _ _ _ rfl];exact HRo.out);clear hg;go_wp2_with fail
    go_roundw
    case rel=>exact⟨j+1,by go_num,by omega,HFr,HRo2⟩
    case measure=>simp[Go.RowKit.intOf];omega
   |false=>
    have HRo2:=hi_ (hp_ HV.out HRo.out hlt (HGone.out hg));have HFr2:=hi_ (HFr.out.set (g:=g) (Or.inl rfl) j (.int .i64 (-1)));clear hg;go_wp2_with fail
    go_roundw
    case rel=>exact⟨j+1,by go_num,by omega,HFr2,HRo2⟩
    case measure=>simp[Go.RowKit.intOf];omega
  ·have hje:j=X.m.length:=by omega
   subst hje;have hnot:¬((X.m.length:Nat):Int)<((X.m.length:Nat):Int):=by omega
   have HX:=hi_ (HEnd.out wr HFr.out HRo.out);go_wp2_with fail
   refine bodyPost_ret (v:=.tuple #[.slice none 0 0,.bool true]) (by simp[results,Tryz.results24,go_sem]) rfl ⟨_,_,_,rfl,HX.out,rfl,rfl,rfl,(fun _ _=>rfl),by rw[HR1.out],by rw[HR2.out],by rw[HR1.out];exact ax_.nil _ _ _ _,fun _ _=>rfl⟩
end A
end
end Go.Proofs.YtinphfpdfodkkaaGreatDoor
