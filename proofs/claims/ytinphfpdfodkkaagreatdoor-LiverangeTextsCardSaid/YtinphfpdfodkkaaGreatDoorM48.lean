/- Texts of the proof. -/
import Derived.Test.YtinphfpdfodkkaaGreatDoorM42
import Derived.Test.YtinphfpdfodkkaaGreatDoorM43
import Derived.Test.YtinphfpdfodkkaaGreatDoorM44
set_option linter.unusedVariables false
set_option linter.unusedSimpArgs false
set_option maxHeartbeats 8000000
set_option maxRecDepth 100000
namespace Go.Proofs.YtinphfpdfodkkaaGreatDoor
section
open Go.RowKit Go.Sort
namespace A
open H G R
theorem cpy_node(w0 w:World)(X:Tw)(a:Nat)(deep:Bool)(h:TwIs w0 w X)(n1:a<X.m.length)(hfw:X.m.length<=2000)(hha:has X.m a=true)(hk1:(nd X.m a).kind≠1)(hA:∀i,(nd X.m i).attrs.length<=100000)(hA2:∀i,(nd X.M.m i).attrs.length<=100000)(hkeep:Sim (copyOf X.m a deep).2 (copyOf X.M.m a deep).2) :
  Calls Tryz.prog 71 #[.pointer (some ⟨X.tb,0,none⟩),.int .i64 (a:Nat),.bool deep] w fun e w'=>∃X',e=.returned (.bool true)/\TwIs w0 w' X'/\X'.tb=X.tb/\X'.T.bs=X.T.bs/\X'.T.st=X.T.st/\X'.m=(copyOf X.m a deep).2/\X'.M.m=(copyOf X.M.m a deep).2:=by
 have hl:=h.pos_len;have hb1:=(Below.refl w.heap.size w).alloc (Nat.le_refl _) (.cells #[.pointer (some ⟨X.tb,0,none⟩)] 27);have HX1:=hi_ (Blk.new w #[.pointer (some ⟨X.tb,0,none⟩)] 27);have H1:=hi_ (h.below hb1);have HB1:=hi_ hb1;obtain⟨g,cap,hv,_,hcap,_⟩:=h.toMid.cells hl;have HV:=hi_ hv;have HSm:=hi_ h.sim;have hwl:=hi_ (fun(k:Nat) (hk:X.foot k)=>h.foot_lt hk);clear hb1;have hr1:copyOf X.m a deep=(0,copyT 128 X.m a deep):=by unfold copyOf;rw[if_neg hk1]
 have hr2:copyOf X.M.m a deep=(0,copyT 128 X.M.m a deep):=by unfold copyOf;rw[if_neg (by rw[<-HSm.out.kind];exact hk1)]
 rw[hr1,hr2];have hkeep2:=hkeep;rw[hr1,hr2]at hkeep2;obtain⟨C1,hC1⟩:∃C1,C1=copyT 128 X.m a deep:=⟨_,rfl⟩;rw[<-hC1]at hr1 hkeep2 ⊢;refine(callsIn_wide (n:=9)).1 ?_;refine callsIn_of_wp_marks Tryz.func71 rfl trivial ?_ rfl;refine wpIn_wide.2 ?_;simp only[Tryz.ntmps71,List.size_toArray,List.length_cons,List.length_nil,Nat.reduceAdd,Nat.reduceSub,Array.replicate_succ,Array.replicate_zero,List.push_toArray,List.append_toArray,List.nil_append,List.cons_append];go_upto_region 1 with fail
 generalize w.alloc (.cells #[.pointer (some ⟨X.tb,0,none⟩)] 27)=w1 at *;obtain⟨c0,c1,c2,hlt⟩:=cells3 H1.out.blk;rw[hv]at c2;have hbx:=(cells_of HX1.out).1 0;have hbl:=HX1.out.lt;have hz:=H1.out.toMid.get hv n1;have hgl:=hz.2.2;have hai:(a:Int)<(X.m.length:Int):=by omega
 have ha0:(0:Int)<=(a:Int):=by omega
 have D0:=lc_ c0 hlt;have D2:=lc_ c2 hlt;have DB:=lc_ hbx hbl;have QH:=hi_ (fun(i:Nat) W (hM:ModelMem W X.M)=>mHas X.M i W hM);rw[hv1_of hha]at hz;have DZ:=fun d:Later w1.heap.size w1=>Later.cell hz.1 hgl d;have hh2:has X.M.m a=true:=by rw[<-HSm.out.has];exact hha
 have HH2:=hi_ hh2;have HK:=hi_ hkeep;have HA:=hi_ hA;have HA2:=hi_ hA2;have hlM:X.M.nodes.length=X.m.length:=by rw[<-X.M.m_len,<-HSm.out.len]
 have HlM:=hi_ hlM;have QN:=hi_ (fun W (hb:Below w1.heap.size w1 W)=>copy_ X.T X.m X.pos a deep W (H1.out.below hb).tree hha (by omega) (fun i _=>HA.out i) H1.out.slots);have QM:=hi_ (fun W (hM:ModelMem W X.M) (hbg:(copyOf X.M.m a deep).2.length<=100000)=>mCopy X.M a deep W hM (H1.out.sim.wf H1.out.tree.fits.wf) (by omega) hbg (fun i _=>HA2.out i));rw[hr1]at QN;simp only[if_neg hk1]at QN;rw[hr2]at QM;rw[hr1,hr2]at HK;have hW:=H1.out.tree.fits.wf;have hap0:0<a:=by
  rcases Nat.eq_zero_or_pos a with e|e
  ·exact absurd (by rw[e];exact hW.doc.2.1) hk1
  ·exact e
 have HCp:=hi_ (hW.copyT 128 deep n1 hap0 (WF.low hW 128 a (by have:=hW.depth_pos a;omega)));have hfew2:=copyT_few hW hha hap0 deep;have HFw2:Hid ((copyT 128 X.m a deep).length<=4001):=hi_ (by omega);clear hha hh2 hkeep hA hA2 hr1 hr2 hfew2 hW;rw[<-hC1]at HCp HFw2;clear hC1;refine wp_region_mid 12 _ _ (by kernel_rfl) (by kernel_rfl) rfl ?_;simp only[List.take_succ_cons,List.take_zero];repeat (go_big_quiet_step (fail))
 refine wq_ (fun dq=>?_);intro K hK;have HD3:=hi_ dq.h;clear D0 D2 DZ DB c0 c1 c2 hlt hbx hbl hz hgl;generalize dq.w=w3 at *;go_simp
 go_at_call 130
 refine(QN.out w3 HD3.out).mono ?_;rintro e w4 ⟨T4,pos4,rfl,hf4,hg4,ht4,hp4,hs4⟩;have H3:=hi_ (H1.out.below HD3.out);have HP4:=hi_ (⟨hf4,hg4,ht4,hp4,hs4⟩:_/\_/\_/\_/\_);have HX3:=hi_ (HX1.out.below HD3.out);have hnb:¬X.T.foot w.heap.size:=fun e=>by have:=hwl.out _ (Or.inr (Or.inl e));omega
 have hnm:¬X.M.foot w.heap.size:=fun e=>by have:=hwl.out _ (Or.inr (Or.inr (Or.inl e)));omega
 have HX4:=hi_ (HX3.out.frame hf4 hnb);have HM4:=hi_ (H3.out.mid hf4);clear hf4 hg4 ht4 hp4 hs4 QN hnb;go_simp
 refine hK _ _ (midQ_normal ?_);clear hK K;repeat (go_big_quiet_step (fail))
 refine wq_ (fun dq=>?_);have HD5:=hi_ dq.h;generalize dq.w=w5 at *;have HM5:=hi_ (HM4.out.below HD5.out);have HX5:=hi_ (HX4.out.below HD5.out);have HFt:=hi_ (HP4.out.1.below_ HD5.out);have HTr:=hi_ (HP4.out.2.2.1.below HD5.out);obtain⟨c0,c1,c2,hlt⟩:=cells3 HM5.out.blk;have hbx:=(cells_of HX5.out).1 0;obtain⟨m0,m1,m2⟩:=HM5.out.model.top;have Q:=hi_ (QH.out a w5 HM5.out.model);rw[HH2.out]at Q;go_wp2_with fail
 refine Q.out.mono ?_;rintro e w6 ⟨rfl,rfl⟩;have Q2:=hi_ (QM.out w5 HM5.out.model (by have:=HFw2.out;have:=HK.out.len;omega));clear Q QM;go_wp2_with fail
 refine Q2.out.mono ?_;rintro e w7 ⟨M7,rfl,hf7,hm7,hme7,hl7⟩;have HP7:=hi_ (⟨hf7,hm7,hme7,hl7⟩:_/\_/\_/\_);have HM7b:=hi_ (HM5.out.blk.frame hf7 H3.out.tb_model);have HX7:=hi_ (HX5.out.frame hf7 hnm);clear hf7 hm7 hl7 hme7 c0 c1 c2 hlt hbx m0 m1 m2 Q2;obtain⟨c0,c1,c2,hlt⟩:=cells3 HM7b.out;have hbx:=(cells_of HX7.out).1 0;have hbs:=HP4.out.2.1.bs;have hst:=HP4.out.2.1.st;have HdE:Hid (hd T4 pos4 X.m.length=hd X.T pos4 X.m.length):=hi_ (by unfold hd;rw[hbs,hst]);have QW:=hi_ (fun W=>Walk_ X.T.tb (hd X.T pos4 X.m.length) W);have HBo:=hi_ (H3.out.both HV.out HFt.out HP4.out.2.1 HTr.out HP7.out.1);have HHv:=hi_ (hvs_copy HCp.out hbs hst HP4.out.2.2.2.1);go_wp2_with fail
 refine(QW.out _).mono ?_;rintro e w8 ⟨rfl,rfl⟩;clear QW;have HB8:=hi_ (((Below.refl w7.heap.size w7).alloc (Nat.le_refl _) (.cells #[.pointer (some ⟨X.T.tb,0,none⟩)] 37)).alloc (by simp) (.cells #[.int .i64 (hd X.T pos4 X.m.length)] 3));have hq1:w7.heap.size<((w7.alloc (.cells #[.pointer (some ⟨X.T.tb,0,none⟩)] 37)).alloc (.cells #[.int .i64 (hd X.T pos4 X.m.length)] 3)).heap.size:=by simp;omega
 have hq2:w7.heap.size+1<((w7.alloc (.cells #[.pointer (some ⟨X.T.tb,0,none⟩)] 37)).alloc (.cells #[.int .i64 (hd X.T pos4 X.m.length)] 3)).heap.size:=by simp
 have hq3:World.cell? ((w7.alloc (.cells #[.pointer (some ⟨X.T.tb,0,none⟩)] 37)).alloc (.cells #[.int .i64 (hd X.T pos4 X.m.length)] 3)) ⟨w7.heap.size,0,none⟩=some (.pointer (some ⟨T4.tb,0,none⟩)):=by rw[HP4.out.2.1.tb];simp[go_sem]
 have hq4:World.cell? ((w7.alloc (.cells #[.pointer (some ⟨X.T.tb,0,none⟩)] 37)).alloc (.cells #[.int .i64 (hd X.T pos4 X.m.length)] 3)) ⟨w7.heap.size+1,0,none⟩=some (.int .i64 (hd T4 pos4 X.m.length)):=by rw[HdE.out];simp[go_sem]
 generalize (w7.alloc (.cells #[.pointer (some ⟨X.T.tb,0,none⟩)] 37)).alloc (.cells #[.int .i64 (hd X.T pos4 X.m.length)] 3)=w8 at *;have hB8:X.B<=w8.heap.size:=by
  have h1:=(World.ownsRow.lt HBo.out.2.2.2.2 g rfl);have h2:=HB8.out.size;omega
 have hroot:has C1 X.m.length=true:=by unfold G.has;rw[HCp.out.root.2.1];rfl
 have hC4:=HFw2.out;have hsum:=HHv.out.1;go_wp2_with fail
 refine(wpIn_wide (n:=9)).1 ?_;refine cp_range (n:=9) (w:=w8) (T:=T4) (m:=C1) (pos:=pos4) (c:=X.m.length) (Bs:=w.heap.size) (tb:=X.tb) (B:=X.B) (n0:=X.m.length) (g0:=g) (cap0:=cap) (b1:=w7.heap.size) (b2:=w7.heap.size+1) (p1:=.pointer (some ⟨X.T.tb,0,none⟩)) (p2:=.pointer (some ⟨X.M.mb,0,none⟩)) (hs:=hvs X.T X.pos X.m X.m.length) (hx:=rfl) (hT:=HBo.out.1.below HB8.out) (hc:=hroot) (hBx:=HX7.out.below HB8.out) (hb:=HBo.out.2.2.2.1.below HB8.out) (hr:=own_below HBo.out.2.2.2.2 HB8.out) (hn:=⟨HBo.out.2.1,HBo.out.2.2.1⟩) (hlen:=by omega) (hB:=hB8) (hb1:=hq1) (hb2:=hq2) (c1:=hq3) (c2:=hq4) (hQ:=?_) _ _ _ _ _ _ _ _ _ _ _ _ _ _ _ _ _ _ _ _ _ _ _ _ _ _ _ _ _ _ _ _ _ _ _ _ _ _ _ _ _ _ _ _ _ _ _ _ _ _ _ _ _ _ _ _ _ _ _ _ _ _ _ _ _ _ _ _ _ _ _ _ _ _ _ _ _ _ _ _ _ _ _ _ _ _ _ _ _ _ _ _ _ _ _ _ _ _ _ _ _ _ _ _ _ _ _ _ _ _ _ _
 intro W9 g9 cap9 hv9 hrow9 hgg9 hf9 hk9;rw[HHv.out.2]at hrow9;rw[HHv.out.1]at hv9 hrow9;have hML:M7.nodes.length=C1.length:=by rw[<-M7.m_len,HP7.out.2.2.1,HK.out.len]
 have hgX:X.hv.ownBlock=some g:=by rw[HV.out];rfl
 have hnM:¬M7.foot g/\¬M7.foot X.tb:=⟨H3.out.hv_model HV.out HFt.out.size HP7.out.2.2.2,fun e=>(HP7.out.2.2.2.foot _ e).elim (fun e=>H3.out.tb_model e) (fun e=>by have h1:=H3.out.foot_lt (k:=X.tb) (Or.inl rfl);have h2:=HFt.out.size;omega)⟩;have hM9:ModelMem W9 M7:=(HP7.out.2.1.below HB8.out).frame hf9 (fun k hk e=>e.elim (fun e=>hnM.1 (by rw[<-e];exact hk)) (fun e=>hnM.2 (by rw[<-e];exact hk)));have hMb:M7.mb=X.M.mb:=HP7.out.2.2.2.mb;have hX9:=(HX7.out.below HB8.out).frame hf9 (fun e=>e.elim (fun e=>own_not HBo.out.2.2.2.2 HX7.out (by decide) (by rw[e];rfl)) (fun e=>by have h1:=HX7.out;rw[e]at h1;exact absurd (blk_type h1 HBo.out.2.2.2.1) (by decide)));have hg9D:g9≠w8.heap.size:=fun e=>by
  obtain⟨cur,hcc⟩:=own_type hrow9 (g:=g9) rfl;have h1:W9.heap[g9]?=_:=hcc;rw[e,hk9]at h1
  cases h1
 have hw78:=HB8.out.size;have htb8:X.tb<w7.heap.size:=HBo.out.2.2.2.1.lt;have QE:=hi_ (fun wF (fr:H.Frame (fun k=>k=w8.heap.size) W9 wF)=>H3.out.more2 (hv':=.slice (some ⟨g9,0,none⟩) C1.length cap9) HFt.out HP4.out.2.1 HTr.out HP7.out.1 HP7.out.2.1 HP7.out.2.2.2 (by rw[HP7.out.2.2.1];exact HK.out) (Nat.le_of_lt HCp.out.more) HP4.out.2.2.2.2
  (((H.Frame.of (S:=fun k=>X.hv.ownBlock=some k\/k=X.tb) HB8.out).trans hf9 (fun b e=>e.elim (fun e=>Or.inl (Or.inl (by rw[hgX,e]))) (fun e=>Or.inl (Or.inr e)))).trans fr (fun b e=>Or.inr (by omega)))
  (hv9.frame fr (by omega)) (own_frame hrow9 fr (fun g' hg' e=>hg9D (by rw[e]at hg';simpa[Value.ownBlock]using hg')))
  (fun k hk=>by
   have hkk:g9=k:=by simpa[Value.ownBlock]using hk
   rw[<-hkk];exact hgg9.imp (fun e=>by rw[e];exact hgX) (fun e=>by omega)))
 have HTb:Hid (T4.bs=X.T.bs/\T4.st=X.T.st):=hi_ ⟨hbs,hst⟩;have HMe:Hid (M7.m=copyT 128 X.M.m a deep):=hi_ HP7.out.2.2.1;obtain⟨c0',c1',c2',hlt9⟩:=cells3 hv9;have hbx9:=(cells_of hX9).1 0;have hbl9:=hX9.lt;obtain⟨m0',_,_⟩:=hM9.top;have hmb9:=hM9.blk.lt;rw[hML,hMb]at m0';rw[hMb]at hmb9;have hmore:=HCp.out.more;have hcell:=(ownsRow_open hrow9).2.2.2 X.m.length (by rw[intVs_len,hvs_len];exact hmore);have hcv:(intVs (hvs T4 pos4 C1 C1.length))[X.m.length]?=some (.int .i64 (hd X.T pos4 X.m.length)):=by
  unfold intVs hvs;rw[List.getElem?_map,List.getElem?_map,List.getElem?_range hmore];show some (Value.int .i64 (hv1 T4 pos4 C1 X.m.length))=_;unfold hv1;rw[if_pos hroot,HdE.out]
 have hcl:=hcell.1.trans hcv;have hg9l:=(ownsRow_open hrow9).1;have E0:=fun d:Later W9.heap.size W9=>Later.cell c0' hlt9 d;have E1:=fun d:Later W9.heap.size W9=>Later.cell c1' hlt9 d;have E2:=fun d:Later W9.heap.size W9=>Later.cell c2' hlt9 d;have EB:=lc_ hbx9 hbl9;have EM:=fun d:Later W9.heap.size W9=>Later.cell m0' hmb9 d;have EH:=lc_ hcl hg9l;have HK9:=hi_ hk9;have hnn0:(0:Int)<=(X.m.length:Int):=by omega
 have hnn1:(X.m.length:Int)<(C1.length:Int):=by omega
 clear hv9 hrow9 hgg9 hf9 hk9 hM9 hX9 hcell hcv hnM hML;dsimp only;go_upto_region 11 with fail
 go_quiet (fail)
 go_wp2_with fail
 refine⟨by simp,.inl ⟨_,_,rfl,run_takeDeferred (show(W9.drewN nq).heap[w8.heap.size]?=some (.deferred (some []))from HK9.out),?_⟩⟩;have fr9:H.Frame (fun k=>k=w8.heap.size) W9 ((W9.drewN nq).putObj w8.heap.size (.deferred none)):=H.Frame.grown (S:=fun k=>k=w8.heap.size) (H.Frame.of (bdN (Below.refl W9.heap.size W9) nq)) (grownBy_putObj_a _ _ _) (fun k e=>by cases e;exact Or.inl rfl);exact⟨_,results_tmp rfl _ _ _,_,rfl,QE.out _ fr9,rfl,HTb.out.1,HTb.out.2,rfl,HMe.out⟩
theorem do9_2(w0 w:World)(X:Tw)(o:G.Op)(k:Nat)(h:TwIs w0 w X)(hF:Fit w0 X o k)(hk:o.kind % 10=9)(hha:has X.m (o.at_ X.m)=true) :
  Calls Tryz.prog 24 #[.pointer (some ⟨X.tb,0,none⟩),opV o] w fun e w'=>DoIs w0 w X o e w':=by
 have hl:=h.pos_len;obtain⟨e1,e2,e3,n1,n2,n3,q1,q2⟩:=op_nums o hl hF.few hF.u8 X.m rfl;have HOV:=opV_eq o;rw[HOV.out];have ek:Int.tmod (o.kind:Int) 10=9:=by rw[show(10:Int)=((10:Nat):Int)from rfl,<-Int.ofNat_tmod,hk];rfl
 obtain⟨hb1,HO1,HN0⟩:=op_box w o;have H1:=hi_ (h.below hb1);have HB1:=hi_ hb1;obtain⟨g,cap,hv,_,hcap,_⟩:=h.toMid.cells hl;have HF:=hi_ hF;obtain⟨⟨ha1,ha2,ha3,hfw⟩,⟨wa1,wa2,wa3⟩,wn1,wc1,hn0,hn00,hn1,hn11⟩:=do_facts hF hl;clear hb1 HOV
 go_enter Tryz.func24,Tryz.ntmps24
 obtain⟨c0,c1,c2,hlt⟩:=cells3 H1.out.blk;obtain⟨o0,o1,o2,o3,o4,o5,o6,o7⟩:=cells8 HO1.out;have hlo:=HO1.out.lt;rw[hv]at c2;go_upto_region 2 with fail
 go_quiet (fail)
 rw[op_c rfl hfw];have H2:=hi_ (H1.out.below (bdN (Below.refl _ _) nq));have HO2:=hi_ (HO1.out.below (bdN (Below.refl _ _) nq));have HB2:=hi_ (bdN HB1.out nq);have HN2:=hi_ (HN0.out nq);clear HN0;clear H1 HO1 HB1 c0 c1 c2 hlt o0 o1 o2 o3 o4 o5 o6 o7 hlo;generalize (w.alloc (.cells #[.int .u8 (o.kind:Nat),.int .u8 (o.a:Nat),.int .u8 (o.b:Nat),.int .u8 (o.c:Nat),.string ⟨o.s.toArray⟩,.string ⟨o.t.toArray⟩,.int .i8 o.n,.int .i8 o.k] 65)).drewN nq=w2 at *;obtain⟨c0,c1,c2,hlt⟩:=cells3 H2.out.blk;obtain⟨o0,o1,o2,o3,o4,o5,o6,o7⟩:=cells8 HO2.out;have hlo:=HO2.out.lt;rw[hv]at c2;have QH:=hi_ (fun(i:Nat) W (hb:Below w2.heap.size w2 W)=>mHas X.M i W (H2.out.model.below hb));have HSm:=hi_ h.sim;have HV:=hi_ hv;have hst1:=step_9 (lim:=some 64) (m:=X.m) hk
 have hst2:=step_9 (lim:=none) (m:=X.M.m) (o:=o) hk;have hat:o.at_ X.M.m=o.at_ X.m:=by unfold Op.at_;rw[h.sim.len]
 rw[hat,<-h.sim.has]at hst2;obtain⟨a,ha⟩:∃a,a=o.at_ X.m:=⟨_,rfl⟩;rw[<-ha]at hst1 hst2 n1 hha ⊢;have HSt1:=hi_ hst1;have HSt2:=hi_ hst2;clear hst1 hst2 hat ha h hF e1 e2 e3 wa1 wa2 wa3 wn1 wc1 hn0 hn00 hn1 hn11 q1 q2;go_wp2_with fail
 refine(QH.out a w2 (Below.refl _ _)).mono ?_;rintro e w2' ⟨rfl,rfl⟩;rw[<-HSm.out.has];have hz:=H2.out.toMid.get hv n1;have hgl:=hz.2.2;have hai:(a:Int)<(X.m.length:Int):=by omega
 have ha0:(0:Int)<=(a:Int):=by omega
 have D0:=lc_ c0 hlt;have D2:=lc_ c2 hlt;rw[hv1_of hha]at hz;have DZ:=fun d:Later w2.heap.size w2=>Later.cell hz.1 hgl d;have HR1:Hid (G.step (some 64) X.m o=([],dropN X.m a)):=hi_ (by rw[HSt1.out,if_neg (by rw[hha];simp)]);have HR2:Hid (G.step none X.M.m o=([],dropN X.M.m a)):=hi_ (by rw[HSt2.out,if_neg (by rw[hha];simp)]);have HKs:=hi_ HF.out.keep;rw[HR1.out,HR2.out]at HKs;have HCd:=hi_ (dropN_code HSm.out a);have QN:=hi_ (fun W (hb:Below w2.heap.size w2 W)=>drop2_ X.T X.m X.pos a W (H2.out.below hb).tree hha (by omega));have QM:=hi_ (fun W (hM:ModelMem W X.M)=>mDrop X.M a W hM (H2.out.sim.wf H2.out.tree.fits.wf) (by rw[<-X.M.m_len,<-HSm.out.len];exact n1));rw[hha];clear hha HSt1 HSt2;go_upto_region 8 with fail
 refine wp_region_mid 11 _ _ (by kernel_rfl) (by kernel_rfl) rfl ?_;simp only[List.take_succ_cons,List.take_zero];repeat (go_big_quiet_step (fail))
 refine wq_ (fun dq=>?_);intro K hK;have HD3:=hi_ dq.h;clear D0 D2 DZ;generalize dq.w=w3 at *;go_simp
 go_at_call 72
 refine(QN.out w3 HD3.out).mono ?_;rintro e w4 ⟨T4,rfl,hf4,hg4,ht4,hs4⟩;have H3:=hi_ (H2.out.below HD3.out);have HP4:=hi_ (⟨hf4,hg4,ht4,hs4⟩:_/\_/\_/\_);have HM4:=hi_ (H3.out.mid hf4);clear hf4 hg4 ht4 hs4 QN;go_simp
 refine hK _ _ (midQ_normal ?_);clear hK K;repeat (go_big_quiet_step (fail))
 refine wq_ (fun dq=>?_);have HD5:=hi_ dq.h;generalize dq.w=w5 at *;have HM5:=hi_ (HM4.out.below HD5.out);obtain⟨c0',c1',c2',hlt'⟩:=cells3 HM5.out.blk;rw[HV.out]at c2';go_wp2_with fail
 refine(QM.out w5 HM5.out.model).mono ?_;rintro e wB ⟨M6,rfl,hf6,hm6,hme6,hl6⟩;have HFt:=hi_ (HP4.out.1.below_ HD5.out);have HTr:=hi_ (HP4.out.2.2.1.below HD5.out);have HFm:Hid (H.Frame X.M.foot w5 wB):=hi_ (hf6.wide (fun k hk=>by rw[hk];exact Or.inr (Or.inl rfl)));have HM6:=hi_ hm6;have HMe:=hi_ hme6;have HL6:=hi_ hl6;have HSm6:Hid (Sim (dropN X.m a).2 M6.m):=hi_ (by rw[HMe.out];exact HKs.out);have HSw:=hi_ (fun W (fr:H.Frame (fun k=>k=g) wB W)=>H3.out.sweep HV.out HFt.out HFm.out HM6.out HL6.out fr);have HR0:=hi_ (H3.out.row0 HFt.out HFm.out (hv1 T4 X.pos (dropN X.m a).2));have HKp:Hid (∀j,j<X.m.length->has M6.m j=true->hv1 T4 X.pos (dropN X.m a).2 j=hv1 X.T X.pos X.m j):=hi_ (fun j hj hh=>by
  rw[<-HSm6.out.has]at hh;unfold hv1 hd;rw[if_pos hh,if_pos (dropN_has a hj hh),HP4.out.2.1.bs,HP4.out.2.1.st])
 have HGn:Hid (∀j,has M6.m j=false->hv1 T4 X.pos (dropN X.m a).2 j=-1):=hi_ (fun j hj=>by
  unfold hv1;rw[HSm6.out.has,if_neg (by rw[hj];simp)])
 have HEnd:=hi_ (fun W (fr:H.Frame (fun k=>k=g) wB W) hro=>H3.out.dropped HV.out HFt.out HP4.out.2.1 HTr.out HFm.out HM6.out HL6.out HSm6.out (dropN_len X.m a) HP4.out.2.2.2 fr hro);have HTb:Hid (T4.bs=X.T.bs/\T4.st=X.T.st):=hi_ ⟨HP4.out.2.1.bs,HP4.out.2.1.st⟩;have hml:0<(dropN X.m a).2.length:=by rw[dropN_len];exact hl
 have Hml:=hi_ hml;rw[<-HCd.out];generalize hcode:(dropN X.m a).1=z at *;clear hf6 hm6 hme6 hl6 QM HP4 HM4 HM5 HD5 HD3 H3 c0' c1' c2' hlt' hml HCd HKs hcode;clear c0 c1 c2 hlt o0 o1 o2 o3 o4 o5 o6 o7 hlo hz hgl;go_wp2_with fail
 go_loopw [40] (fun v40 wr => ∃ (j : Nat), v40 = .int .i64 (j : Nat) ∧ j ≤ X.m.length ∧ Hid (H.Frame (fun k => k = g) wB wr) ∧ Hid (wr.ownsRow X.B 3 1 X.hv X.m.length (intVs (mixL (hv1 T4 X.pos (dropN X.m a).2) (hv1 X.T X.pos X.m) X.m.length j))))
   (fun v40 _=>X.m.length-(Go.RowKit.intOf v40).toNat)
 case atStart=>exact⟨0,rfl,Nat.zero_le _,hi_ (H.Frame.refl _ _),HR0⟩
 case round=>
  obtain⟨j,rfl,hj,HFr,HRo⟩:=hrel
  rcases Nat.lt_or_ge j X.m.length with hlt|hge
  ·have hii:(j:Int)<(X.m.length:Int):=by omega
   have hj0:(0:Int)<=(j:Int):=by omega
   obtain⟨hmr,hbr⟩:=HSw.out wr HFr.out;obtain⟨c0',c1',c2',hlt'⟩:=cells3 hbr;obtain⟨⟨u,hcu⟩,hfu⟩:=sweep_cell HV.out HRo.out hlt;have Q:=hi_ (mHas M6 j wr hmr);have HSame:=hi_ (HKp.out j hlt);have HGone:=hi_ (HGn.out j);clear hmr hbr;go_wp2_with fail
   refine Q.out.mono ?_;rintro e wr' ⟨rfl,rfl⟩
   cases hg:has M6.m j with
   |true=>
    have HRo2:=hi_ (show wr.ownsRow X.B 3 1 X.hv X.m.length (intVs (mixL (hv1 T4 X.pos (dropN X.m a).2) (hv1 X.T X.pos X.m) X.m.length (j+1))) by rw[mixL_same _ _ _ _ (HSame.out hg)];exact HRo.out);clear hg;go_wp2_with fail
    go_roundw
    case rel=>exact⟨j+1,by go_num,by omega,HFr,HRo2⟩
    case measure=>simp[Go.RowKit.intOf];omega
   |false=>
    have HRo2:=hi_ (sweep_row HV.out HRo.out hlt (HGone.out hg));have HFr2:=hi_ (HFr.out.set (g:=g) (Or.inl rfl) j (.int .i64 (-1)));clear hg;go_wp2_with fail
    go_roundw
    case rel=>exact⟨j+1,by go_num,by omega,HFr2,HRo2⟩
    case measure=>simp[Go.RowKit.intOf];omega
  ·have hje:j=X.m.length:=by omega
   subst hje;have hnot:¬((X.m.length:Nat):Int)<((X.m.length:Nat):Int):=by omega
   have HX:=hi_ (HEnd.out wr HFr.out HRo.out);have QS:=hi_ (match_same HX.out.toMid Hml.out [] 0 0 (.slice none 0 0) (.slice none 0 0) (RecsAt.nil _ _ _ _) (World.ownsRow_nil _ _ _ _) (by simp) (fun r hr=>by cases hr));go_wp2_with fail
   refine QS.out.mono ?_;rintro e w7 ⟨rfl,hb7⟩;have HX7:=hi_ (HX.out.below hb7);clear hb7 QS;go_wp2_with fail
   refine bodyPost_ret (v:=.tuple #[.slice none 0 0,.bool true]) (by simp[results,Tryz.results24,go_sem]) rfl ⟨_,_,_,rfl,HX7.out,rfl,HTb.out.1,HTb.out.2,by rw[HR1.out],by rw[HR2.out];exact HMe.out,by rw[HR1.out];exact RecsAt.nil _ _ _ _,fun _ _=>rfl⟩
end A
end
end Go.Proofs.YtinphfpdfodkkaaGreatDoor
