/- Texts. -/
import Derived.Test.YtinphfpdfodkkaaGreatDoorP36
set_option linter.unusedVariables false
set_option linter.unusedSimpArgs false
set_option maxHeartbeats 8000000
set_option maxRecDepth 100000
namespace Go.Proofs.YtinphfpdfodkkaaGreatDoor
section
open Go.RowKit Go.Sort
namespace A
open H G R
theorem cpy_doc(w0 w:World)(X:Tw)(a:Nat)(deep:Bool)(h:be_ w0 w X)(n1:a<X.m.length)(hfw:X.m.length<=2000)(hha:has X.m a=true)(hk1:(nd X.m a).kind=1)(hA:∀i,(nd X.m i).attrs.length<=100000)(hA2:∀i,(nd X.M.m i).attrs.length<=100000)(hkeep:Sim (a2_ X.m a deep).2 (a2_ X.M.m a deep).2) :
  Calls Tryz.prog 71 #[.pointer (some ⟨X.tb,0,none⟩),.int .i64 a,.bool deep] w fun e w'=>∃X',e=.returned (.bool true)/\be_ w0 w' X'/\X'.key=X.key/\X'.T.bs=X.T.bs/\X'.T.st=X.T.st/\(∀i,i<X.m.length->X'.pos i=X.pos i)/\X'.m=(a2_ X.m a deep).2/\X'.M.m=(a2_ X.M.m a deep).2:=by
 have hl:=h.pos_len;have hb1:=(Below.refl w.heap.size w).alloc (nl_) (.cells #[.pointer (some ⟨X.tb,0,none⟩)] 27);have HX1:=hi_ (Blk.new w #[.pointer (some ⟨X.tb,0,none⟩)] 27);have H1:=hi_ (h.below hb1);have HB1:=hi_ hb1;obtain⟨g,cap,hv,_,hcap,_⟩:=h.toMid.cells hl;have HV:=hi_ hv;have HSm:=hi_ h.sim;have hwl:=hi_ (fun(k:Nat) (hk:X.foot k)=>h.foot_lt hk);clear hb1;have hr1:a2_ X.m a deep=(10,X.m):=by unfold a2_;rw[if_pos hk1]
 have hr2:a2_ X.M.m a deep=(10,X.M.m):=by unfold a2_;rw[if_pos (by rw[<-HSm.out.kind];exact hk1)]
 rw[hr1,hr2]
 go_enter Tryz.func71,Tryz.ntmps71
 go_upto_region 1 with fail
 generalize w.alloc (.cells #[.pointer (some ⟨X.tb,0,none⟩)] 27)=w1 at *;obtain⟨c0,c1,c2,hlt⟩:=cells3 H1.out.blk;rw[hv]at c2;have hbx:=(ad_ HX1.out).1 0;have hbl:=HX1.out.lt;have hz:=H1.out.toMid.get hv n1;have hgl:=hz.2.2;have hai:(a:Int)<(X.m.length:Int):=by omega
 have ha0:(0:Int)<=(a:Int):=by omega
 have D0:=lc_ c0 hlt;have D2:=lc_ c2 hlt;have DB:=lc_ hbx hbl;have QH:=hi_ (fun(i:Nat) W (hM:ab_ W X.M)=>gf_ X.M i W hM);rw[cE_ hha]at hz;have DZ:=fun d:Later w1.heap.size w1=>Later.cell hz.1 hgl d;have hh2:has X.M.m a=true:=by rw[<-HSm.out.has];exact hha
 have HH2:=hi_ hh2;have HK:=hi_ hkeep;have HA:=hi_ hA;have HA2:=hi_ hA2;have hlM:X.M.nodes.length=X.m.length:=by rw[<-X.M.m_len,<-HSm.out.len]
 have HlM:=hi_ hlM;have QN:=hi_ (fun W (hb:Below w1.heap.size w1 W)=>copy_ X.T X.m X.pos a deep W (H1.out.below hb).tree hha (by omega) (fun i _=>HA.out i) H1.out.slots);have QM:=hi_ (fun W (hM:ab_ W X.M) (hbg:(a2_ X.M.m a deep).2.length<=100000)=>mCopy X.M a deep W hM (H1.out.sim.wf H1.out.tree.fits.wf) (by omega) hbg (fun i _=>HA2.out i));rw[hr1]at QN;simp only[if_pos hk1]at QN;rw[hr2]at QM;clear hha hh2 hkeep hA hA2 hr1 hr2 HK;refine an_ 12 _ _ (by kernel_rfl) (by kernel_rfl) rfl ?_;simp only[List.take_succ_cons,List.take_zero];repeat (go_big_quiet_step (fail))
 refine wq_ (fun dq=>?_);intro K hK;have HD3:=hi_ dq.h;clear D0 D2 DZ DB c0 c1 c2 hlt hbx hbl hz hgl;generalize dq.w=w3 at *;go_simp
 go_at_call 130
 refine(QN.out w3 HD3.out).mono ?_;rintro e w4 ⟨T4,pos4,rfl,hf4,hg4,ht4,hp4,hs4⟩;have H3:=hi_ (H1.out.below HD3.out);have HP4:=hi_ (⟨hf4,hg4,ht4,hp4,hs4⟩:_/\_/\_/\_/\_);have HX3:=hi_ (HX1.out.below HD3.out);have hnb:¬X.T.foot w.heap.size:=fun e=>by have:=hwl.out _ (Or.inr (Or.inl e));omega
 have hnm:¬X.M.foot w.heap.size:=fun e=>by have:=hwl.out _ (Or.inr (Or.inr (Or.inl e)));omega
 have HX4:=hi_ (HX3.out.frame hf4 hnb);have HM4:=hi_ (H3.out.mid hf4);clear hf4 hg4 ht4 hp4 hs4 QN hnb;go_simp
 refine hK _ _ (ar_ ?_);clear hK K;repeat (go_big_quiet_step (fail))
 refine wq_ (fun dq=>?_);have HD5:=hi_ dq.h;generalize dq.w=w5 at *;have HM5:=hi_ (HM4.out.below HD5.out);have HX5:=hi_ (HX4.out.below HD5.out);have HFt:=hi_ (HP4.out.1.below_ HD5.out);have HTr:=hi_ (HP4.out.2.2.1.below HD5.out);obtain⟨c0,c1,c2,hlt⟩:=cells3 HM5.out.blk;have hbx:=(ad_ HX5.out).1 0;obtain⟨m0,m1,m2⟩:=HM5.out.model.top;have Q:=hi_ (QH.out a w5 HM5.out.model);rw[HH2.out]at Q;go_wp2_with fail
 refine Q.out.mono ?_;rintro e w6 ⟨rfl,rfl⟩;have Q2:=hi_ (QM.out w5 HM5.out.model (by rw[X.M.m_len];omega));clear Q QM;go_wp2_with fail
 refine Q2.out.mono ?_;rintro e w7 ⟨M7,rfl,hf7,hm7,hme7,hl7⟩;have HN:=hi_ (H3.out.next HFt.out HP4.out.2.1 HTr.out hf7 hm7 hl7 (by rw[hme7];exact HSm.out) rfl (fun _=>rfl) HP4.out.2.2.2.1 HP4.out.2.2.2.2);have HMe:=hi_ hme7;have HTb:Hid (T4.bs=X.T.bs/\T4.st=X.T.st/\∀i,i<X.m.length->pos4 i=X.pos i):=hi_ ⟨HP4.out.2.1.bs,HP4.out.2.1.st,HP4.out.2.2.2.1⟩;clear hf7 hm7 hl7 hme7 c0 c1 c2 hlt hbx m0 m1 m2 Q2;go_wp2_with fail
 refine bodyPost_ret (v:=.bool true) (by simp[results,Tryz.results71,go_sem]) rfl ⟨_,rfl,HN.out,rfl,HTb.out.1,HTb.out.2.1,HTb.out.2.2,rfl,HMe.out⟩
end A
end
end Go.Proofs.YtinphfpdfodkkaaGreatDoor
