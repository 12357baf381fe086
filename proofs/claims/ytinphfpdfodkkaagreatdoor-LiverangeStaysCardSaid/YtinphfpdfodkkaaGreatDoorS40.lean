/- Texts. -/
import Derived.Test.YtinphfpdfodkkaaGreatDoorS38
import Derived.Test.YtinphfpdfodkkaaGreatDoorS39
set_option linter.unusedVariables false
set_option linter.unusedSimpArgs false
set_option maxHeartbeats 8000000
set_option maxRecDepth 100000
namespace Go.Proofs.YtinphfpdfodkkaaGreatDoor
section
open Go.RowKit Go.Sort
namespace A
open H G R
section
variable {w0 w w1 w2 w3:World} {X:Tw} {T':am_} {M':aJ_} {m':aa_} {pos':Nat->Nat} {g cap:Nat}
theorem bu_.both(h:bu_ w0 w X)(hv:X.hv=.slice (some ⟨g,0,none⟩) X.m.length cap)(f1:H.Frame X.T.foot w w1)(g1:Goes w X.T T')(t1:ag_ w1 T' m' pos')(f2:H.Frame X.M.foot w1 w2) :
  ag_ w2 T' m' pos'/\¬T'.foot g/\¬T'.foot X.tb/\Blk X.tb #[.pointer (some ⟨X.T.tb,0,none⟩),.pointer (some ⟨X.M.mb,0,none⟩),.slice (some ⟨g,0,none⟩) X.m.length cap] 41 w2/\w2.ownsRow X.B 3 1 (.slice (some ⟨g,0,none⟩) X.m.length cap) X.m.length (bB_ (hvs X.T X.pos X.m X.m.length)):=by
 have hk:X.hv.ownBlock=some g:=by rw[hv];rfl
 have hm:=h.mid f1;have hf1:∀k,T'.foot k->X.T.foot k\/w.heap.size<=k:=g1.foot;have hX1:∀k,X.foot k->k<w.heap.size:=fun k hk=>h.foot_lt hk;have hap1:∀k,T'.foot k->¬X.M.foot k:=fun k hk hM=>(hf1 k hk).elim (fun e=>h.apart k e hM) (fun e=>by have:=hX1 k (Or.inr (Or.inr (Or.inl hM)));omega);refine⟨⟨al_.frame t1.mem f2 hap1 (fun r hr g hg hS=>fg_ t1.mem hm.model hS r hr hg),t1.fits⟩,fun e=>?_,fun e=>?_,?_,?_⟩
 ·rcases hf1 g e with e|e
  ·exact(h.hap g hk).1 e
  have:=hX1 g (Or.inr (Or.inr (Or.inr hk)));omega
 ·rcases hf1 _ e with e|e
  ·exact h.tb_tree e
  have:=hX1 X.tb (Or.inl rfl);omega
 ·rw[<-hv];exact hm.blk.frame f2 h.tb_model
 rw[<-hv];exact ak_ hm.row f2 (fun g hg hS=>(h.hap g hg).2 hS)
end
theorem of_{T T':am_}{pos pos':Nat->Nat}{m m':aa_}{a:Nat}(C:dW_ m m' a)(hb:T'.bs=T.bs)(hs:T'.st=T.st)(hp:∀i,i<m.length->pos' i=pos i) :
  m.length+(walk m' m.length).length=m'.length ∧
  bB_ (hvs T pos m m.length)++(List.range (walk m' m.length).length).map (fun i=>Value.int .i64 (hd T' pos' ((walk m' m.length).getD i 0)))=bB_ (hvs T' pos' m' m'.length):=by
 have hwl:(walk m' m.length).length=m'.length-m.length:=by rw[C.walk,List.length_range']
 have hmore:=C.more;have hsum:m.length+(walk m' m.length).length=m'.length:=by omega
 refine⟨hsum,?_⟩;have hroot:has m' m.length=true:=by unfold G.has;rw[C.root.2.1];rfl
 have e1:hvs T' pos' m' m.length=hvs T pos m m.length:=mz_ hb hs hp (fun i hi=>by unfold G.has;rw[C.old i hi]);have e2:hvs T' pos' m' m'.length=hvs T' pos' m' m.length++(List.range (m'.length-m.length)).map (fun i=>hv1 T' pos' m' (m.length+i)):=by
  unfold hvs
  conv=>lhs;rw[show m'.length=m.length+(m'.length-m.length) by omega,List.range_add,List.map_append,List.map_map]
  rfl
 rw[e2,e1,hwl];unfold bB_;rw[List.map_append,List.map_map]
 congr 1
 refine List.map_congr_left fun i hi=>?_;have hi:=List.mem_range.1 hi;have hg:(walk m' m.length).getD i 0=m.length+i:=by
  rw[C.walk,List.getD_eq_getElem?_getD,List.getElem?_range' (by omega)];simp
 have hh:has m' (m.length+i)=true:=WF.walk_has C.wf m.length hroot (m.length+i) (by rw[C.walk,List.mem_range'_1];omega);show Value.int .i64 _=Value.int .i64 (hv1 T' pos' m' (m.length+i));rw[hg];unfold hv1;rw[if_pos hh]
end A
end
section
open Go.RowKit Go.Sort
namespace A
open H G R
theorem op_(w0 w:World)(X:Tw)(a:Nat)(deep:Bool)(h:bu_ w0 w X)(n1:a<X.m.length)(hfw:X.m.length<=2000)(hha:has X.m a=true)(hk1:(nd X.m a).kind≠1)(hA:∀i,(nd X.m i).attrs.length<=100000)(hA2:∀i,(nd X.M.m i).attrs.length<=100000)(hkeep:Sim (aU_ X.m a deep).2 (aU_ X.M.m a deep).2) :
  Calls Tryz.prog 71 #[.pointer (some ⟨X.tb,0,none⟩),.int .i64 a,.bool deep] w fun e w'=>∃X',e=.returned (.bool true)/\bu_ w0 w' X'/\X'.key=X.key/\X'.T.bs=X.T.bs/\X'.T.st=X.T.st/\(∀i,i<X.m.length->X'.pos i=X.pos i)/\X'.m=(aU_ X.m a deep).2/\X'.M.m=(aU_ X.M.m a deep).2:=by
 have hl:=h.pos_len;have hb1:=(Below.refl w.heap.size w).alloc (nl_) (.cells #[.pointer (some ⟨X.tb,0,none⟩)] 27);have HX1:=hi_ (Blk.new w #[.pointer (some ⟨X.tb,0,none⟩)] 27);have H1:=hi_ (h.below hb1);have HB1:=hi_ hb1;obtain⟨g,cap,hv,_,hcap,_⟩:=h.toMid.cells hl;have HV:=hi_ hv;have HSm:=hi_ h.sim;have hwl:=hi_ (fun(k:Nat) (hk:X.foot k)=>h.foot_lt hk);clear hb1;have hr1:aU_ X.m a deep=(0,copyT 128 X.m a deep):=by unfold aU_;rw[if_neg hk1]
 have hr2:aU_ X.M.m a deep=(0,copyT 128 X.M.m a deep):=by unfold aU_;rw[if_neg (by rw[<-HSm.o.kind];exact hk1)]
 rw[hr1,hr2];have hkeep2:=hkeep;rw[hr1,hr2]at hkeep2;obtain⟨C1,hC1⟩:∃C1,C1=copyT 128 X.m a deep:=⟨_,rfl⟩;rw[<-hC1]at hr1 hkeep2 ⊢;refine(callsIn_wide (n:=9)).1 ?_;refine callsIn_of_wp_marks Tryz.func71 rfl trivial ?_ rfl;refine wpIn_wide.2 ?_;simp only[Tryz.ntmps71,List.size_toArray,List.length_cons,List.length_nil,Nat.reduceAdd,Nat.reduceSub,Array.replicate_succ,Array.replicate_zero,List.push_toArray,List.append_toArray,List.nil_append,List.cons_append];go_upto_region 1 with fail
 generalize w.alloc (.cells #[.pointer (some ⟨X.tb,0,none⟩)] 27)=w1 at *;obtain⟨c0,c1,c2,hlt⟩:=cells3 H1.o.blk;rw[hv]at c2;have hbx:=(ae_ HX1.o).1 0;have hbl:=HX1.o.lt;have hz:=H1.o.toMid.get hv n1;have hgl:=hz.2.2;have hai:(a:Int)<(X.m.length:Int):=by omega
 have ha0:(0:Int)<=(a:Int):=by omega
 have D0:=lc_ c0 hlt;have D2:=lc_ c2 hlt;have DB:=lc_ hbx hbl;have QH:=hi_ (fun(i:Nat) W (hM:ac_ W X.M)=>hv_ X.M i W hM);rw[da_ hha]at hz;have DZ:=fun d:Later w1.heap.size w1=>Later.cell hz.1 hgl d;have hh2:has X.M.m a=true:=by rw[<-HSm.o.has];exact hha
 have HH2:=hi_ hh2;have HK:=hi_ hkeep;have HA:=hi_ hA;have HA2:=hi_ hA2;have hlM:X.M.nodes.length=X.m.length:=by rw[<-X.M.m_len,<-HSm.o.len]
 have HlM:=hi_ hlM;have QN:=hi_ (fun W (hb:Below w1.heap.size w1 W)=>copy_ X.T X.m X.pos a deep W (H1.o.below hb).tree hha (by omega) (fun i _=>HA.o i) H1.o.slots);have QM:=hi_ (fun W (hM:ac_ W X.M) (hbg:(aU_ X.M.m a deep).2.length<=100000)=>mCopy X.M a deep W hM (H1.o.sim.wf H1.o.tree.fits.wf) (by omega) hbg (fun i _=>HA2.o i));rw[hr1]at QN;simp only[if_neg hk1]at QN;rw[hr2]at QM;rw[hr1,hr2]at HK;have hW:=H1.o.tree.fits.wf;have hap0:0<a:=by
  rcases Nat.eq_zero_or_pos a with e|e
  ·exact absurd (by rw[e];exact hW.doc.2.1) hk1
  exact e
 have HCp:=hi_ (hW.copyT 128 deep n1 hap0 (WF.low hW 128 a (by have:=hW.depth_pos a;omega)));have hfew2:=gm_ hW hha hap0 deep;have HFw2:Hd ((copyT 128 X.m a deep).length<=4001):=hi_ (by omega);clear hha hh2 hkeep hA hA2 hr1 hr2 hfew2 hW;rw[<-hC1]at HCp HFw2;clear hC1;refine ao_ 12 _ _ (by kernel_rfl) (by kernel_rfl) rfl ?_;simp only[List.take_succ_cons,List.take_zero];repeat (go_big_quiet_step (fail))
 refine wq_ (fun dq=>?_);intro K hK;have HD3:=hi_ dq.h;clear D0 D2 DZ DB c0 c1 c2 hlt hbx hbl hz hgl;generalize dq.w=w3 at *;go_simp
 go_at_call 130
 refine(QN.o w3 HD3.o).mono ?_;rintro e w4 ⟨T4,pos4,rfl,hf4,hg4,ht4,hp4,hs4⟩;have H3:=hi_ (H1.o.below HD3.o);have HP4:=hi_ (⟨hf4,hg4,ht4,hp4,hs4⟩:_/\_/\_/\_/\_);have HX3:=hi_ (HX1.o.below HD3.o);have hnb:¬X.T.foot w.heap.size:=fun e=>by have:=hwl.out _ (Or.inr (Or.inl e));omega
 have hnm:¬X.M.foot w.heap.size:=fun e=>by have:=hwl.out _ (Or.inr (Or.inr (Or.inl e)));omega
 have HX4:=hi_ (HX3.o.frame hf4 hnb);have HM4:=hi_ (H3.o.mid hf4);clear hf4 hg4 ht4 hp4 hs4 QN hnb;go_simp
 refine hK _ _ (as_ ?_);clear hK K;repeat (go_big_quiet_step (fail))
 refine wq_ (fun dq=>?_);have HD5:=hi_ dq.h;generalize dq.w=w5 at *;have HM5:=hi_ (HM4.o.below HD5.o);have HX5:=hi_ (HX4.o.below HD5.o);have HFt:=hi_ (HP4.o.1.below_ HD5.o);have HTr:=hi_ (HP4.o.2.2.1.below HD5.o);obtain⟨c0,c1,c2,hlt⟩:=cells3 HM5.o.blk;have hbx:=(ae_ HX5.o).1 0;obtain⟨m0,m1,m2⟩:=HM5.o.model.top;have Q:=hi_ (QH.o a w5 HM5.o.model);rw[HH2.o]at Q;go_wp2_with fail
 refine Q.o.mono ?_;rintro e w6 ⟨rfl,rfl⟩;have Q2:=hi_ (QM.o w5 HM5.o.model (by have:=HFw2.o;have:=HK.o.len;omega));clear Q QM;go_wp2_with fail
 refine Q2.o.mono ?_;rintro e w7 ⟨M7,rfl,hf7,hm7,hme7,hl7⟩;have HP7:=hi_ (⟨hf7,hm7,hme7,hl7⟩:_/\_/\_/\_);have HM7b:=hi_ (HM5.o.blk.frame hf7 H3.o.tb_model);have HX7:=hi_ (HX5.o.frame hf7 hnm);clear hf7 hm7 hl7 hme7 c0 c1 c2 hlt hbx m0 m1 m2 Q2;obtain⟨c0,c1,c2,hlt⟩:=cells3 HM7b.o;have hbx:=(ae_ HX7.o).1 0;have hbs:=HP4.o.2.1.bs;have hst:=HP4.o.2.1.st;have HdE:Hd (hd T4 pos4 X.m.length=hd X.T pos4 X.m.length):=hi_ (by unfold hd;rw[hbs,hst]);have QW:=hi_ (fun W=>oL_ X.T.tb (hd X.T pos4 X.m.length) W);have HBo:=hi_ (H3.o.both HV.o HFt.o HP4.o.2.1 HTr.o HP7.o.1);have HHv:=hi_ (of_ HCp.o hbs hst HP4.o.2.2.2.1);go_wp2_with fail
 refine(QW.o _).mono ?_;rintro e w8 ⟨rfl,rfl⟩;clear QW;have HB8:=hi_ (((Below.refl w7.heap.size w7).alloc (nl_) (.cells #[.pointer (some ⟨X.T.tb,0,none⟩)] 37)).alloc (by simp) (.cells #[.int .i64 (hd X.T pos4 X.m.length)] 3));have hq1:w7.heap.size<((w7.alloc (.cells #[.pointer (some ⟨X.T.tb,0,none⟩)] 37)).alloc (.cells #[.int .i64 (hd X.T pos4 X.m.length)] 3)).heap.size:=by simp;omega
 have hq2:w7.heap.size+1<((w7.alloc (.cells #[.pointer (some ⟨X.T.tb,0,none⟩)] 37)).alloc (.cells #[.int .i64 (hd X.T pos4 X.m.length)] 3)).heap.size:=by simp
 have hq3:World.cell? ((w7.alloc (.cells #[.pointer (some ⟨X.T.tb,0,none⟩)] 37)).alloc (.cells #[.int .i64 (hd X.T pos4 X.m.length)] 3)) ⟨w7.heap.size,0,none⟩=some (.pointer (some ⟨T4.tb,0,none⟩)):=by rw[HP4.o.2.1.tb];simp[go_sem]
 have hq4:World.cell? ((w7.alloc (.cells #[.pointer (some ⟨X.T.tb,0,none⟩)] 37)).alloc (.cells #[.int .i64 (hd X.T pos4 X.m.length)] 3)) ⟨w7.heap.size+1,0,none⟩=some (.int .i64 (hd T4 pos4 X.m.length)):=by rw[HdE.o];simp[go_sem]
 generalize (w7.alloc (.cells #[.pointer (some ⟨X.T.tb,0,none⟩)] 37)).alloc (.cells #[.int .i64 (hd X.T pos4 X.m.length)] 3)=w8 at *;have hB8:X.B<=w8.heap.size:=by
  have h1:=(World.ownsRow.lt HBo.o.2.2.2.2 g rfl);have h2:=HB8.o.size;omega
 have hroot:has C1 X.m.length=true:=by unfold G.has;rw[HCp.o.root.2.1];rfl
 have hC4:=HFw2.o;have hsum:=HHv.o.1;go_wp2_with fail
 refine(wpIn_wide (n:=9)).1 ?_;refine or_ (n:=9) (w:=w8) (T:=T4) (m:=C1) (pos:=pos4) (c:=X.m.length) (Bs:=w.heap.size) (tb:=X.tb) (B:=X.B) (n0:=X.m.length) (g0:=g) (cap0:=cap) (b1:=w7.heap.size) (b2:=w7.heap.size+1) (p1:=.pointer (some ⟨X.T.tb,0,none⟩)) (p2:=.pointer (some ⟨X.M.mb,0,none⟩)) (hs:=hvs X.T X.pos X.m X.m.length) (hx:=rfl) (hT:=HBo.o.1.below HB8.o) (hc:=hroot) (hBx:=HX7.o.below HB8.o) (hb:=HBo.o.2.2.2.1.below HB8.o) (hr:=own_below HBo.o.2.2.2.2 HB8.o) (hn:=⟨HBo.o.2.1,HBo.o.2.2.1⟩) (hlen:=by omega) (hB:=hB8) (hb1:=hq1) (hb2:=hq2) (c1:=hq3) (c2:=hq4) (hQ:=?_) _ _ _ _ _ _ _ _ _ _ _ _ _ _ _ _ _ _ _ _ _ _ _ _ _ _ _ _ _ _ _ _ _ _ _ _ _ _ _ _ _ _ _ _ _ _ _ _ _ _ _ _ _ _ _ _ _ _ _ _ _ _ _ _ _ _ _ _ _ _ _ _ _ _ _ _ _ _ _ _ _ _ _ _ _ _ _ _ _ _ _ _ _ _ _ _ _ _ _ _ _ _ _ _ _ _ _ _ _ _ _ _
 intro W9 g9 cap9 hv9 hrow9 hgg9 hf9 hk9;rw[HHv.o.2]at hrow9;rw[HHv.o.1]at hv9 hrow9;have hML:M7.nodes.length=C1.length:=by rw[<-M7.m_len,HP7.o.2.2.1,HK.o.len]
 have hgX:X.hv.ownBlock=some g:=by rw[HV.o];rfl
 have hnM:¬M7.foot g/\¬M7.foot X.tb:=⟨H3.o.hv_model HV.o HFt.o.size HP7.o.2.2.2,fun e=>(HP7.o.2.2.2.foot _ e).elim (fun e=>H3.o.tb_model e) (fun e=>by have h1:=H3.o.foot_lt (k:=X.tb) (Or.inl rfl);have h2:=HFt.o.size;omega)⟩;have hM9:ac_ W9 M7:=(HP7.o.2.1.below HB8.o).frame hf9 (fun k hk e=>e.elim (fun e=>hnM.1 (by rw[<-e];exact hk)) (fun e=>hnM.2 (by rw[<-e];exact hk)));have hMb:M7.mb=X.M.mb:=HP7.o.2.2.2.mb;have hX9:=(HX7.o.below HB8.o).frame hf9 (fun e=>e.elim (fun e=>ai_ HBo.o.2.2.2.2 HX7.o (by decide) (by rw[e];rfl)) (fun e=>by have h1:=HX7.o;rw[e]at h1;exact absurd (cD_ h1 HBo.o.2.2.2.1) (by decide)));have hg9D:g9≠w8.heap.size:=fun e=>by
  obtain⟨cur,hcc⟩:=a3_ hrow9 (g:=g9) rfl;have h1:W9.heap[g9]?=_:=hcc;rw[e,hk9]at h1
  cases h1
 have hw78:=HB8.o.size;have htb8:X.tb<w7.heap.size:=HBo.o.2.2.2.1.lt;have QE:=hi_ (fun wF (fr:H.Frame (fun k=>k=w8.heap.size) W9 wF)=>H3.o.more2 (hv':=.slice (some ⟨g9,0,none⟩) C1.length cap9) HFt.o HP4.o.2.1 HTr.o HP7.o.1 HP7.o.2.1 HP7.o.2.2.2 (by rw[HP7.o.2.2.1];exact HK.o) (Nat.le_of_lt HCp.o.more) HP4.o.2.2.2.2
  (((H.Frame.of (S:=fun k=>X.hv.ownBlock=some k\/k=X.tb) HB8.o).trans hf9 (fun b e=>e.elim (fun e=>Or.inl (Or.inl (by rw[hgX,e]))) (fun e=>Or.inl (Or.inr e)))).trans fr (fun b e=>Or.inr (by omega)))
  (hv9.frame fr (by omega)) (ak_ hrow9 fr (fun g' hg' e=>hg9D (by rw[e]at hg';simpa[Value.ownBlock]using hg')))
  (fun k hk=>by
   have hkk:g9=k:=by simpa[Value.ownBlock]using hk
   rw[<-hkk];exact hgg9.imp (fun e=>by rw[e];exact hgX) (fun e=>by omega)))
 have HTb:Hd (T4.bs=X.T.bs/\T4.st=X.T.st/\∀i,i<X.m.length->pos4 i=X.pos i):=hi_ ⟨hbs,hst,HP4.o.2.2.2.1⟩;have HMe:Hd (M7.m=copyT 128 X.M.m a deep):=hi_ HP7.o.2.2.1;obtain⟨c0',c1',c2',hlt9⟩:=cells3 hv9;have hbx9:=(ae_ hX9).1 0;have hbl9:=hX9.lt;obtain⟨m0',_,_⟩:=hM9.top;have hmb9:=hM9.blk.lt;rw[hML,hMb]at m0';rw[hMb]at hmb9;have hmore:=HCp.o.more;have hcell:=(ad_ hrow9).2.2.2 X.m.length (by rw[eO_,jk_];exact hmore);have hcv:(bB_ (hvs T4 pos4 C1 C1.length))[X.m.length]?=some (.int .i64 (hd X.T pos4 X.m.length)):=by
  unfold bB_ hvs;rw[List.getElem?_map,List.getElem?_map,List.getElem?_range hmore];show some (Value.int .i64 (hv1 T4 pos4 C1 X.m.length))=_;unfold hv1;rw[if_pos hroot,HdE.o]
 have hcl:=hcell.1.trans hcv;have hg9l:=(ad_ hrow9).1;have E0:=fun d:Later W9.heap.size W9=>Later.cell c0' hlt9 d;have E1:=fun d:Later W9.heap.size W9=>Later.cell c1' hlt9 d;have E2:=fun d:Later W9.heap.size W9=>Later.cell c2' hlt9 d;have EB:=lc_ hbx9 hbl9;have EM:=fun d:Later W9.heap.size W9=>Later.cell m0' hmb9 d;have EH:=lc_ hcl hg9l;have HK9:=hi_ hk9;have hnn0:(0:Int)<=(X.m.length:Int):=by omega
 have hnn1:(X.m.length:Int)<(C1.length:Int):=by omega
 clear hv9 hrow9 hgg9 hf9 hk9 hM9 hX9 hcell hcv hnM hML;dsimp only;go_upto_region 11 with fail
 go_quiet (fail)
 go_wp2_with fail
 refine⟨by simp,.inl ⟨_,_,rfl,run_takeDeferred (show(W9.drewN nq).heap[w8.heap.size]?=some (.deferred (some []))from HK9.o),?_⟩⟩;have fr9:H.Frame (fun k=>k=w8.heap.size) W9 ((W9.drewN nq).putObj w8.heap.size (.deferred none)):=H.Frame.grown (S:=fun k=>k=w8.heap.size) (H.Frame.of (bdN (Below.refl W9.heap.size W9) nq)) (grownBy_putObj_a _ _ _) (fun k e=>by cases e;exact Or.inl rfl);exact⟨_,results_tmp rfl _ _ _,_,rfl,QE.o _ fr9,rfl,HTb.o.1,HTb.o.2.1,HTb.o.2.2,rfl,HMe.o⟩
theorem cpy_doc(w0 w:World)(X:Tw)(a:Nat)(deep:Bool)(h:bu_ w0 w X)(n1:a<X.m.length)(hfw:X.m.length<=2000)(hha:has X.m a=true)(hk1:(nd X.m a).kind=1)(hA:∀i,(nd X.m i).attrs.length<=100000)(hA2:∀i,(nd X.M.m i).attrs.length<=100000)(hkeep:Sim (aU_ X.m a deep).2 (aU_ X.M.m a deep).2) :
  Calls Tryz.prog 71 #[.pointer (some ⟨X.tb,0,none⟩),.int .i64 a,.bool deep] w fun e w'=>∃X',e=.returned (.bool true)/\bu_ w0 w' X'/\X'.key=X.key/\X'.T.bs=X.T.bs/\X'.T.st=X.T.st/\(∀i,i<X.m.length->X'.pos i=X.pos i)/\X'.m=(aU_ X.m a deep).2/\X'.M.m=(aU_ X.M.m a deep).2:=by
 have hl:=h.pos_len;have hb1:=(Below.refl w.heap.size w).alloc (nl_) (.cells #[.pointer (some ⟨X.tb,0,none⟩)] 27);have HX1:=hi_ (Blk.new w #[.pointer (some ⟨X.tb,0,none⟩)] 27);have H1:=hi_ (h.below hb1);have HB1:=hi_ hb1;obtain⟨g,cap,hv,_,hcap,_⟩:=h.toMid.cells hl;have HV:=hi_ hv;have HSm:=hi_ h.sim;have hwl:=hi_ (fun(k:Nat) (hk:X.foot k)=>h.foot_lt hk);clear hb1;have hr1:aU_ X.m a deep=(10,X.m):=by unfold aU_;rw[if_pos hk1]
 have hr2:aU_ X.M.m a deep=(10,X.M.m):=by unfold aU_;rw[if_pos (by rw[<-HSm.o.kind];exact hk1)]
 rw[hr1,hr2]
 go_enter Tryz.func71,Tryz.ntmps71
 go_upto_region 1 with fail
 generalize w.alloc (.cells #[.pointer (some ⟨X.tb,0,none⟩)] 27)=w1 at *;obtain⟨c0,c1,c2,hlt⟩:=cells3 H1.o.blk;rw[hv]at c2;have hbx:=(ae_ HX1.o).1 0;have hbl:=HX1.o.lt;have hz:=H1.o.toMid.get hv n1;have hgl:=hz.2.2;have hai:(a:Int)<(X.m.length:Int):=by omega
 have ha0:(0:Int)<=(a:Int):=by omega
 have D0:=lc_ c0 hlt;have D2:=lc_ c2 hlt;have DB:=lc_ hbx hbl;have QH:=hi_ (fun(i:Nat) W (hM:ac_ W X.M)=>hv_ X.M i W hM);rw[da_ hha]at hz;have DZ:=fun d:Later w1.heap.size w1=>Later.cell hz.1 hgl d;have hh2:has X.M.m a=true:=by rw[<-HSm.o.has];exact hha
 have HH2:=hi_ hh2;have HK:=hi_ hkeep;have HA:=hi_ hA;have HA2:=hi_ hA2;have hlM:X.M.nodes.length=X.m.length:=by rw[<-X.M.m_len,<-HSm.o.len]
 have HlM:=hi_ hlM;have QN:=hi_ (fun W (hb:Below w1.heap.size w1 W)=>copy_ X.T X.m X.pos a deep W (H1.o.below hb).tree hha (by omega) (fun i _=>HA.o i) H1.o.slots);have QM:=hi_ (fun W (hM:ac_ W X.M) (hbg:(aU_ X.M.m a deep).2.length<=100000)=>mCopy X.M a deep W hM (H1.o.sim.wf H1.o.tree.fits.wf) (by omega) hbg (fun i _=>HA2.o i));rw[hr1]at QN;simp only[if_pos hk1]at QN;rw[hr2]at QM;clear hha hh2 hkeep hA hA2 hr1 hr2 HK;refine ao_ 12 _ _ (by kernel_rfl) (by kernel_rfl) rfl ?_;simp only[List.take_succ_cons,List.take_zero];repeat (go_big_quiet_step (fail))
 refine wq_ (fun dq=>?_);intro K hK;have HD3:=hi_ dq.h;clear D0 D2 DZ DB c0 c1 c2 hlt hbx hbl hz hgl;generalize dq.w=w3 at *;go_simp
 go_at_call 130
 refine(QN.o w3 HD3.o).mono ?_;rintro e w4 ⟨T4,pos4,rfl,hf4,hg4,ht4,hp4,hs4⟩;have H3:=hi_ (H1.o.below HD3.o);have HP4:=hi_ (⟨hf4,hg4,ht4,hp4,hs4⟩:_/\_/\_/\_/\_);have HX3:=hi_ (HX1.o.below HD3.o);have hnb:¬X.T.foot w.heap.size:=fun e=>by have:=hwl.out _ (Or.inr (Or.inl e));omega
 have hnm:¬X.M.foot w.heap.size:=fun e=>by have:=hwl.out _ (Or.inr (Or.inr (Or.inl e)));omega
 have HX4:=hi_ (HX3.o.frame hf4 hnb);have HM4:=hi_ (H3.o.mid hf4);clear hf4 hg4 ht4 hp4 hs4 QN hnb;go_simp
 refine hK _ _ (as_ ?_);clear hK K;repeat (go_big_quiet_step (fail))
 refine wq_ (fun dq=>?_);have HD5:=hi_ dq.h;generalize dq.w=w5 at *;have HM5:=hi_ (HM4.o.below HD5.o);have HX5:=hi_ (HX4.o.below HD5.o);have HFt:=hi_ (HP4.o.1.below_ HD5.o);have HTr:=hi_ (HP4.o.2.2.1.below HD5.o);obtain⟨c0,c1,c2,hlt⟩:=cells3 HM5.o.blk;have hbx:=(ae_ HX5.o).1 0;obtain⟨m0,m1,m2⟩:=HM5.o.model.top;have Q:=hi_ (QH.o a w5 HM5.o.model);rw[HH2.o]at Q;go_wp2_with fail
 refine Q.o.mono ?_;rintro e w6 ⟨rfl,rfl⟩;have Q2:=hi_ (QM.o w5 HM5.o.model (by rw[X.M.m_len];omega));clear Q QM;go_wp2_with fail
 refine Q2.o.mono ?_;rintro e w7 ⟨M7,rfl,hf7,hm7,hme7,hl7⟩;have HN:=hi_ (H3.o.next HFt.o HP4.o.2.1 HTr.o hf7 hm7 hl7 (by rw[hme7];exact HSm.o) rfl (fun _=>rfl) HP4.o.2.2.2.1 HP4.o.2.2.2.2);have HMe:=hi_ hme7;have HTb:Hd (T4.bs=X.T.bs/\T4.st=X.T.st/\∀i,i<X.m.length->pos4 i=X.pos i):=hi_ ⟨HP4.o.2.1.bs,HP4.o.2.1.st,HP4.o.2.2.2.1⟩;clear hf7 hm7 hl7 hme7 c0 c1 c2 hlt hbx m0 m1 m2 Q2;go_wp2_with fail
 refine bodyPost_ret (v:=.bool true) (by simp[results,Tryz.results71,go_sem]) rfl ⟨_,rfl,HN.o,rfl,HTb.o.1,HTb.o.2.1,HTb.o.2.2,rfl,HMe.o⟩
theorem oq_(w0 w:World)(X:Tw)(a:Nat)(deep:Bool)(h:bu_ w0 w X)(n1:a<X.m.length)(hfw:X.m.length<=2000)(hha:has X.m a=false) :
  Calls Tryz.prog 71 #[.pointer (some ⟨X.tb,0,none⟩),.int .i64 a,.bool deep] w fun e w'=>e=.returned (.bool true)/\bu_ w0 w' X:=by
 have hl:=h.pos_len;have hb1:=(Below.refl w.heap.size w).alloc (nl_) (.cells #[.pointer (some ⟨X.tb,0,none⟩)] 27);have HX1:=hi_ (Blk.new w #[.pointer (some ⟨X.tb,0,none⟩)] 27);have H1:=hi_ (h.below hb1);have HB1:=hi_ hb1;obtain⟨g,cap,hv,_,hcap,_⟩:=h.toMid.cells hl;have HV:=hi_ hv;have HSm:=hi_ h.sim;have hwl:=hi_ (fun(k:Nat) (hk:X.foot k)=>h.foot_lt hk);clear hb1
 go_enter Tryz.func71,Tryz.ntmps71
 go_upto_region 1 with fail
 generalize w.alloc (.cells #[.pointer (some ⟨X.tb,0,none⟩)] 27)=w1 at *;obtain⟨c0,c1,c2,hlt⟩:=cells3 H1.o.blk;rw[hv]at c2;have hbx:=(ae_ HX1.o).1 0;have hbl:=HX1.o.lt;have hz:=H1.o.toMid.get hv n1;have hgl:=hz.2.2;have hai:(a:Int)<(X.m.length:Int):=by omega
 have ha0:(0:Int)<=(a:Int):=by omega
 have D0:=lc_ c0 hlt;have D2:=lc_ c2 hlt;have DB:=lc_ hbx hbl;have QH:=hi_ (fun(i:Nat) W (hM:ac_ W X.M)=>hv_ X.M i W hM);rw[bX_ hha]at hz;have DZ:=fun d:Later w1.heap.size w1=>Later.cell hz.1 hgl d;have QN:=hi_ (fun W (hb:Below w1.heap.size w1 W)=>nb_ X.T (-1) deep W (H1.o.below hb).tree.mem (by omega) (by omega) (cm_ H1.o.tree.fits 1));have hh2:has X.M.m a=false:=by rw[<-HSm.o.has];exact hha
 have HH2:=hi_ hh2;clear hha hh2;refine ao_ 12 _ _ (by kernel_rfl) (by kernel_rfl) rfl ?_;simp only[List.take_succ_cons,List.take_zero];repeat (go_big_quiet_step (fail))
 refine wq_ (fun dq=>?_);intro K hK;have HD3:=hi_ dq.h;clear D0 D2 DZ DB c0 c1 c2 hlt hbx hbl hz hgl;generalize dq.w=w3 at *;go_simp
 go_at_call 130
 refine(QN.o w3 HD3.o).mono ?_;rintro e w4 ⟨rfl,hb4⟩;have HB4:=bt_ HD3 hb4;go_simp
 refine hK _ _ (as_ ?_);clear hK K;repeat (go_big_quiet_step (fail))
 refine wq_ (fun dq=>?_);have HB5:=bt_ HB4 dq.h;generalize dq.w=w5 at *;have H5:=hi_ (H1.o.below HB5.o);obtain⟨c0,c1,c2,hlt⟩:=cells3 H5.o.blk;have hbx:=(ae_ (HX1.o.below HB5.o)).1 0;have Q:=hi_ (QH.o a w5 H5.o.model);rw[HH2.o]at Q;go_wp2_with fail
 refine Q.o.mono ?_;rintro e w6 ⟨rfl,rfl⟩;go_wp2_with fail
 refine bodyPost_ret (v:=.bool true) (by simp[results,Tryz.results71,go_sem]) rfl ⟨rfl,H5.o⟩
theorem oR_{lim:Option Nat}{m:aa_}{o:G.Op}(hk:o.kind % 10=8):G.step lim m o=if has m (o.at_ m)=false then([],6,m) else([],aU_ m (o.at_ m) (decide (0<o.n))):=by
 unfold G.step;rw[if_neg (by omega),if_neg (by omega)]
 split
 ·rfl
 repeat (first|rw[if_pos hk]|rw[if_neg (by omega)])
theorem copy71(w0 w:World)(X:Tw)(a:Nat)(deep:Bool)(h:bu_ w0 w X)(n1:a<X.m.length)(hfw:X.m.length<=2000)(hA:∀i,(nd X.m i).attrs.length<=100000)(hA2:∀i,(nd X.M.m i).attrs.length<=100000)
  (m1 m2:aa_) (e1:m1=if has X.m a=false then X.m else(aU_ X.m a deep).2) (e2:m2=if has X.m a=false then X.M.m else(aU_ X.M.m a deep).2) (hkeep:Sim m1 m2) :
  Calls Tryz.prog 71 #[.pointer (some ⟨X.tb,0,none⟩),.int .i64 a,.bool deep] w fun e w'=>∃X',e=.returned (.bool true)/\bu_ w0 w' X'/\X'.key=X.key/\X'.T.bs=X.T.bs/\X'.T.st=X.T.st/\(∀i,i<X.m.length->X'.pos i=X.pos i)/\X'.m=m1/\X'.M.m=m2:=by
 cases hha:has X.m a with
 |false=>
  rw[if_pos hha]at e1 e2;refine(oq_ w0 w X a deep h n1 hfw hha).mono ?_;rintro e w' ⟨rfl,hX⟩;exact⟨X,rfl,hX,rfl,rfl,rfl,(fun _ _=>rfl),e1.symm,e2.symm⟩
 |true=>
  rw[if_neg (by rw[hha];simp)]at e1 e2;subst e1 e2
  by_cases hk1:(nd X.m a).kind=1
  ·exact cpy_doc w0 w X a deep h n1 hfw hha hk1 hA hA2 hkeep
  exact op_ w0 w X a deep h n1 hfw hha hk1 hA hA2 hkeep
end A
end
end Go.Proofs.YtinphfpdfodkkaaGreatDoor
