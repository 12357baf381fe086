/- Texts of the proof. -/
import Derived.Test.YtinphfpdfodkkaaGreatDoorM40
import Derived.Test.YtinphfpdfodkkaaGreatDoorM41
set_option linter.unusedVariables false
set_option linter.unusedSimpArgs false
set_option maxHeartbeats 8000000
set_option maxRecDepth 100000
namespace Go.Proofs.YtinphfpdfodkkaaGreatDoor
section
open Go.RowKit Go.Sort
namespace A
open H G R
theorem cpy_doc(w0 w:World)(X:Tw)(a:Nat)(deep:Bool)(h:TwIs w0 w X)(n1:a<X.m.length)(hfw:X.m.length<=2000)(hha:has X.m a=true)(hk1:(nd X.m a).kind=1)(hA:∀i,(nd X.m i).attrs.length<=100000)(hA2:∀i,(nd X.M.m i).attrs.length<=100000)(hkeep:Sim (copyOf X.m a deep).2 (copyOf X.M.m a deep).2) :
  Calls Tryz.prog 71 #[.pointer (some ⟨X.tb,0,none⟩),.int .i64 (a:Nat),.bool deep] w fun e w'=>∃X',e=.returned (.bool true)/\TwIs w0 w' X'/\X'.tb=X.tb/\X'.T.bs=X.T.bs/\X'.T.st=X.T.st/\X'.m=(copyOf X.m a deep).2/\X'.M.m=(copyOf X.M.m a deep).2:=by
 have hl:=h.pos_len;have hb1:=(Below.refl w.heap.size w).alloc (Nat.le_refl _) (.cells #[.pointer (some ⟨X.tb,0,none⟩)] 27);have HX1:=hi_ (Blk.new w #[.pointer (some ⟨X.tb,0,none⟩)] 27);have H1:=hi_ (h.below hb1);have HB1:=hi_ hb1;obtain⟨g,cap,hv,_,hcap,_⟩:=h.toMid.cells hl;have HV:=hi_ hv;have HSm:=hi_ h.sim;have hwl:=hi_ (fun(k:Nat) (hk:X.foot k)=>h.foot_lt hk);clear hb1;have hr1:copyOf X.m a deep=(10,X.m):=by unfold copyOf;rw[if_pos hk1]
 have hr2:copyOf X.M.m a deep=(10,X.M.m):=by unfold copyOf;rw[if_pos (by rw[<-HSm.out.kind];exact hk1)]
 rw[hr1,hr2]
 go_enter Tryz.func71,Tryz.ntmps71
 go_upto_region 1 with fail
 generalize w.alloc (.cells #[.pointer (some ⟨X.tb,0,none⟩)] 27)=w1 at *;obtain⟨c0,c1,c2,hlt⟩:=cells3 H1.out.blk;rw[hv]at c2;have hbx:=(cells_of HX1.out).1 0;have hbl:=HX1.out.lt;have hz:=H1.out.toMid.get hv n1;have hgl:=hz.2.2;have hai:(a:Int)<(X.m.length:Int):=by omega
 have ha0:(0:Int)<=(a:Int):=by omega
 have D0:=lc_ c0 hlt;have D2:=lc_ c2 hlt;have DB:=lc_ hbx hbl;have QH:=hi_ (fun(i:Nat) W (hM:ModelMem W X.M)=>mHas X.M i W hM);rw[hv1_of hha]at hz;have DZ:=fun d:Later w1.heap.size w1=>Later.cell hz.1 hgl d;have hh2:has X.M.m a=true:=by rw[<-HSm.out.has];exact hha
 have HH2:=hi_ hh2;have HK:=hi_ hkeep;have HA:=hi_ hA;have HA2:=hi_ hA2;have hlM:X.M.nodes.length=X.m.length:=by rw[<-X.M.m_len,<-HSm.out.len]
 have HlM:=hi_ hlM;have QN:=hi_ (fun W (hb:Below w1.heap.size w1 W)=>copy_ X.T X.m X.pos a deep W (H1.out.below hb).tree hha (by omega) (fun i _=>HA.out i) H1.out.slots);have QM:=hi_ (fun W (hM:ModelMem W X.M) (hbg:(copyOf X.M.m a deep).2.length<=100000)=>mCopy X.M a deep W hM (H1.out.sim.wf H1.out.tree.fits.wf) (by omega) hbg (fun i _=>HA2.out i));rw[hr1]at QN;simp only[if_pos hk1]at QN;rw[hr2]at QM;clear hha hh2 hkeep hA hA2 hr1 hr2 HK;refine wp_region_mid 12 _ _ (by kernel_rfl) (by kernel_rfl) rfl ?_;simp only[List.take_succ_cons,List.take_zero];repeat (go_big_quiet_step (fail))
 refine wq_ (fun dq=>?_);intro K hK;have HD3:=hi_ dq.h;clear D0 D2 DZ DB c0 c1 c2 hlt hbx hbl hz hgl;generalize dq.w=w3 at *;go_simp
 go_at_call 130
 refine(QN.out w3 HD3.out).mono ?_;rintro e w4 ⟨T4,pos4,rfl,hf4,hg4,ht4,hp4,hs4⟩;have H3:=hi_ (H1.out.below HD3.out);have HP4:=hi_ (⟨hf4,hg4,ht4,hp4,hs4⟩:_/\_/\_/\_/\_);have HX3:=hi_ (HX1.out.below HD3.out);have hnb:¬X.T.foot w.heap.size:=fun e=>by have:=hwl.out _ (Or.inr (Or.inl e));omega
 have hnm:¬X.M.foot w.heap.size:=fun e=>by have:=hwl.out _ (Or.inr (Or.inr (Or.inl e)));omega
 have HX4:=hi_ (HX3.out.frame hf4 hnb);have HM4:=hi_ (H3.out.mid hf4);clear hf4 hg4 ht4 hp4 hs4 QN hnb;go_simp
 refine hK _ _ (midQ_normal ?_);clear hK K;repeat (go_big_quiet_step (fail))
 refine wq_ (fun dq=>?_);have HD5:=hi_ dq.h;generalize dq.w=w5 at *;have HM5:=hi_ (HM4.out.below HD5.out);have HX5:=hi_ (HX4.out.below HD5.out);have HFt:=hi_ (HP4.out.1.below_ HD5.out);have HTr:=hi_ (HP4.out.2.2.1.below HD5.out);obtain⟨c0,c1,c2,hlt⟩:=cells3 HM5.out.blk;have hbx:=(cells_of HX5.out).1 0;obtain⟨m0,m1,m2⟩:=HM5.out.model.top;have Q:=hi_ (QH.out a w5 HM5.out.model);rw[HH2.out]at Q;go_wp2_with fail
 refine Q.out.mono ?_;rintro e w6 ⟨rfl,rfl⟩;have Q2:=hi_ (QM.out w5 HM5.out.model (by rw[X.M.m_len];omega));clear Q QM;go_wp2_with fail
 refine Q2.out.mono ?_;rintro e w7 ⟨M7,rfl,hf7,hm7,hme7,hl7⟩;have HN:=hi_ (H3.out.next HFt.out HP4.out.2.1 HTr.out hf7 hm7 hl7 (by rw[hme7];exact HSm.out) rfl (fun _=>rfl) HP4.out.2.2.2.1 HP4.out.2.2.2.2);have HMe:=hi_ hme7;have HTb:Hid (T4.bs=X.T.bs/\T4.st=X.T.st):=hi_ ⟨HP4.out.2.1.bs,HP4.out.2.1.st⟩;clear hf7 hm7 hl7 hme7 c0 c1 c2 hlt hbx m0 m1 m2 Q2;go_wp2_with fail
 refine bodyPost_ret (v:=.bool true) (by simp[results,Tryz.results71,go_sem]) rfl ⟨_,rfl,HN.out,rfl,HTb.out.1,HTb.out.2,rfl,HMe.out⟩
theorem do3_1(w0 w:World)(X:Tw)(o:G.Op)(k:Nat)(h:TwIs w0 w X)(hF:Fit w0 X o k)(hk:o.kind % 10=3)(hA:has X.m (o.at_ X.m)=false) :
  Calls Tryz.prog 24 #[.pointer (some ⟨X.tb,0,none⟩),opV o] w fun e w'=>DoIs w0 w X o e w':=by
 have hl:=h.pos_len;obtain⟨e1,e2,e3,n1,n2,n3,q1,q2⟩:=op_nums o hl hF.few hF.u8 X.m rfl;have HOV:=opV_eq o;rw[HOV.out];have ek:Int.tmod (o.kind:Int) 10=3:=by rw[show(10:Int)=((10:Nat):Int)from rfl,<-Int.ofNat_tmod,hk];rfl
 obtain⟨hb1,HO1,HN0⟩:=op_box w o;have H1:=hi_ (h.below hb1);have HB1:=hi_ hb1;obtain⟨g,cap,hv,_,hcap,_⟩:=h.toMid.cells hl;have HF:=hi_ hF;obtain⟨⟨ha1,ha2,ha3,hfw⟩,⟨wa1,wa2,wa3⟩,wn1,wc1,hn0,hn00,hn1,hn11⟩:=do_facts hF hl;clear hb1 HOV
 go_enter Tryz.func24,Tryz.ntmps24
 obtain⟨c0,c1,c2,hlt⟩:=cells3 H1.out.blk;obtain⟨o0,o1,o2,o3,o4,o5,o6,o7⟩:=cells8 HO1.out;have hlo:=HO1.out.lt;rw[hv]at c2;go_upto_region 2 with fail
 go_quiet (fail)
 rw[op_c rfl hfw];have H2:=hi_ (H1.out.below (bdN (Below.refl _ _) nq));have HO2:=hi_ (HO1.out.below (bdN (Below.refl _ _) nq));have HB2:=hi_ (bdN HB1.out nq);have HN2:=hi_ (HN0.out nq);clear HN0;clear H1 HO1 HB1 c0 c1 c2 hlt o0 o1 o2 o3 o4 o5 o6 o7 hlo;generalize (w.alloc (.cells #[.int .u8 (o.kind:Nat),.int .u8 (o.a:Nat),.int .u8 (o.b:Nat),.int .u8 (o.c:Nat),.string ⟨o.s.toArray⟩,.string ⟨o.t.toArray⟩,.int .i8 o.n,.int .i8 o.k] 65)).drewN nq=w2 at *;obtain⟨c0,c1,c2,hlt⟩:=cells3 H2.out.blk;obtain⟨o0,o1,o2,o3,o4,o5,o6,o7⟩:=cells8 HO2.out;have hlo:=HO2.out.lt;rw[hv]at c2;have QH:=hi_ (fun(i:Nat) W (hb:Below w2.heap.size w2 W)=>mHas X.M i W (H2.out.model.below hb));have HSm:=hi_ h.sim;have HV:=hi_ hv;have hst1:=step_3 (lim:=some 64) (m:=X.m) hk
 have hst2:=step_3 (lim:=none) (m:=X.M.m) (o:=o) hk;have hat:o.at_ X.M.m=o.at_ X.m:=by unfold Op.at_;rw[h.sim.len]
 have hbt:o.bt X.M.m=o.bt X.m:=by unfold Op.bt;rw[h.sim.len]
 have hct:o.ct X.M.m=o.ct X.m:=by unfold Op.ct;rw[h.sim.len]
 have hho:hasO X.M.m (o.ct X.m)=hasO X.m (o.ct X.m):=by
  cases o.ct X.m with
  |none=>rfl
  |some i=>exact(h.sim.has i).symm
 rw[hat,hbt,hct,hho,<-h.sim.has,<-h.sim.has]at hst2;obtain⟨a,ha⟩:∃a,a=o.at_ X.m:=⟨_,rfl⟩;obtain⟨b,hb⟩:∃b,b=o.bt X.m:=⟨_,rfl⟩;obtain⟨c,hc⟩:∃c,c=o.ct X.m:=⟨_,rfl⟩;rw[<-ha]at hA;rw[<-ha,<-hb,<-hc]at hst1 hst2;rw[<-ha]at n1 ⊢;rw[<-hb]at n2 ⊢;rw[<-hc]at n3 ⊢;have HSt1:=hi_ hst1;have HSt2:=hi_ hst2;clear hst1 hst2 hat hbt hct hho ha hb hc h hF e1 e2 e3 wa1 wa2 wa3 wn1 wc1 hn0 hn00 hn1 hn11 q1 q2;go_wp2_with fail
 refine(QH.out a w2 (Below.refl _ _)).mono ?_;rintro e w2' ⟨rfl,rfl⟩;rw[<-HSm.out.has];have hza:=H2.out.toMid.get hv n1;have hzb:=H2.out.toMid.get hv n2;have hgl:=hza.2.2;have hai:(a:Int)<(X.m.length:Int):=by omega
 have ha0:(0:Int)<=(a:Int):=by omega
 have hbi:(b:Int)<(X.m.length:Int):=by omega
 have hb0:(0:Int)<=(b:Int):=by omega
 have D0:=lc_ c0 hlt;have D2:=lc_ c2 hlt;have DA:=fun d:Later w2.heap.size w2=>Later.cell hza.1 hgl d;have DB:=fun d:Later w2.heap.size w2=>Later.cell hzb.1 hgl d;have QK:=hi_ (fun W (hb:Below w2.heap.size w2 W)=>tw_handle (H2.out.below hb).toMid hl c n3);have hBa:=hv1_big H2.out a;have hBb:=hv1_big H2.out b;have hBc:=hvO_big H2.out c;rw[hA];have HR1:Hid (G.step (some 64) X.m o=([],6,X.m)):=hi_ (by rw[HSt1.out];rw[hA];rfl);have HR2:Hid (G.step none X.M.m o=([],6,X.M.m)):=hi_ (by rw[HSt2.out];rw[hA];rfl);have QN:=hi_ (fun W (hb:Below w2.heap.size w2 W)=>insert_none X.T (hv1 X.T X.pos X.m b) (hv1 X.T X.pos X.m a) (hvO X c) W (H2.out.below hb).tree.mem (by omega) (by omega) (by omega) (by omega) (by omega) (by omega) (by rw[hv1_gone hA];exact Or.inr (Or.inl (ptr_gone H2.out.tree.fits 1))));clear hA
 go_upto_region 33 with fail
 refine wp_region_mid 21 _ _ (by kernel_rfl) (by kernel_rfl) rfl ?_;simp only[List.take_succ_cons,List.take_zero];repeat (go_big_quiet_step ((go_at_call 61;exact Calls.later_same (QK.out _ (Later.h _)))))
 refine wq_ (fun dq=>?_);intro K hK;have HD3:=hi_ dq.h;clear D0 D2 DA DB;generalize dq.w=w3 at *;go_simp
 go_at_call 60
 refine(QN.out w3 HD3.out).mono ?_;rintro e w4 ⟨rfl,hb4⟩;have HB4:=bt_ HD3 hb4;go_simp
 refine hK _ _ (midQ_normal ?_);clear hK K;repeat (go_big_quiet_step (fail))
 refine wq_ (fun dq=>?_);have HB5:=bt_ HB4 dq.h;generalize dq.w=w5 at *;go_wp2_with fail
 refine bodyPost_ret (v:=.tuple #[.slice none 0 0,.bool true]) (by simp[results,Tryz.results24,go_sem]) rfl ⟨_,_,X,rfl,H2.out.below HB5.out,rfl,rfl,rfl,by rw[HR1.out],by rw[HR2.out],by rw[HR1.out];exact RecsAt.nil _ _ _ _,fun _ _=>rfl⟩
end A
end
end Go.Proofs.YtinphfpdfodkkaaGreatDoor
