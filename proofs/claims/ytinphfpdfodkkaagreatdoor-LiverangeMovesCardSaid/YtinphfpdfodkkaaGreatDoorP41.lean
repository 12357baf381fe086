/- Texts. -/
import Derived.Test.YtinphfpdfodkkaaGreatDoorP40
import Derived.Test.YtinphfpdfodkkaaGreatDoorP39
set_option linter.unusedVariables false
set_option linter.unusedSimpArgs false
set_option maxHeartbeats 8000000
set_option maxRecDepth 100000
namespace Go.Proofs.YtinphfpdfodkkaaGreatDoor
section
open Go.RowKit Go.Sort
namespace A
open H G R
theorem nj_(w0 w:World)(X:Tw)(a:Nat)(deep:Bool)(h:be_ w0 w X)(n1:a<X.m.length)(hfw:X.m.length<=2000)(hha:has X.m a=false) :
  Calls Tryz.prog 71 #[.pointer (some ⟨X.tb,0,none⟩),.int .i64 a,.bool deep] w fun e w'=>e=.returned (.bool true)/\be_ w0 w' X:=by
 have hl:=h.pos_len;have hb1:=(Below.refl w.heap.size w).alloc (nl_) (.cells #[.pointer (some ⟨X.tb,0,none⟩)] 27);have HX1:=hi_ (Blk.new w #[.pointer (some ⟨X.tb,0,none⟩)] 27);have H1:=hi_ (h.below hb1);have HB1:=hi_ hb1;obtain⟨g,cap,hv,_,hcap,_⟩:=h.toMid.cells hl;have HV:=hi_ hv;have HSm:=hi_ h.sim;have hwl:=hi_ (fun(k:Nat) (hk:X.foot k)=>h.foot_lt hk);clear hb1
 go_enter Tryz.func71,Tryz.ntmps71
 go_upto_region 1 with fail
 generalize w.alloc (.cells #[.pointer (some ⟨X.tb,0,none⟩)] 27)=w1 at *;obtain⟨c0,c1,c2,hlt⟩:=cells3 H1.out.blk;rw[hv]at c2;have hbx:=(ad_ HX1.out).1 0;have hbl:=HX1.out.lt;have hz:=H1.out.toMid.get hv n1;have hgl:=hz.2.2;have hai:(a:Int)<(X.m.length:Int):=by omega
 have ha0:(0:Int)<=(a:Int):=by omega
 have D0:=lc_ c0 hlt;have D2:=lc_ c2 hlt;have DB:=lc_ hbx hbl;have QH:=hi_ (fun(i:Nat) W (hM:ab_ W X.M)=>gf_ X.M i W hM);rw[cj_ hha]at hz;have DZ:=fun d:Later w1.heap.size w1=>Later.cell hz.1 hgl d;have QN:=hi_ (fun W (hb:Below w1.heap.size w1 W)=>md_ X.T (-1) deep W (H1.out.below hb).tree.mem (by omega) (by omega) (cG_ H1.out.tree.fits 1));have hh2:has X.M.m a=false:=by rw[<-HSm.out.has];exact hha
 have HH2:=hi_ hh2;clear hha hh2;refine an_ 12 _ _ (by kernel_rfl) (by kernel_rfl) rfl ?_;simp only[List.take_succ_cons,List.take_zero];repeat (go_big_quiet_step (fail))
 refine wq_ (fun dq=>?_);intro K hK;have HD3:=hi_ dq.h;clear D0 D2 DZ DB c0 c1 c2 hlt hbx hbl hz hgl;generalize dq.w=w3 at *;go_simp
 go_at_call 130
 refine(QN.out w3 HD3.out).mono ?_;rintro e w4 ⟨rfl,hb4⟩;have HB4:=bt_ HD3 hb4;go_simp
 refine hK _ _ (ar_ ?_);clear hK K;repeat (go_big_quiet_step (fail))
 refine wq_ (fun dq=>?_);have HB5:=bt_ HB4 dq.h;generalize dq.w=w5 at *;have H5:=hi_ (H1.out.below HB5.out);obtain⟨c0,c1,c2,hlt⟩:=cells3 H5.out.blk;have hbx:=(ad_ (HX1.out.below HB5.out)).1 0;have Q:=hi_ (QH.out a w5 H5.out.model);rw[HH2.out]at Q;go_wp2_with fail
 refine Q.out.mono ?_;rintro e w6 ⟨rfl,rfl⟩;go_wp2_with fail
 refine bodyPost_ret (v:=.bool true) (by simp[results,Tryz.results71,go_sem]) rfl ⟨rfl,H5.out⟩
theorem nM_{lim:Option Nat}{m:aa_}{o:G.Op}(hk:o.kind % 10=8):G.step lim m o=if has m (o.at_ m)=false then([],6,m) else([],a2_ m (o.at_ m) (decide (0<o.n))):=by
 unfold G.step;rw[if_neg (by omega),if_neg (by omega)]
 split
 ·rfl
 ·repeat (first|rw[if_pos hk]|rw[if_neg (by omega)])
theorem copy71(w0 w:World)(X:Tw)(a:Nat)(deep:Bool)(h:be_ w0 w X)(n1:a<X.m.length)(hfw:X.m.length<=2000)(hA:∀i,(nd X.m i).attrs.length<=100000)(hA2:∀i,(nd X.M.m i).attrs.length<=100000)
  (m1 m2:aa_) (e1:m1=if has X.m a=false then X.m else(a2_ X.m a deep).2) (e2:m2=if has X.m a=false then X.M.m else(a2_ X.M.m a deep).2) (hkeep:Sim m1 m2) :
  Calls Tryz.prog 71 #[.pointer (some ⟨X.tb,0,none⟩),.int .i64 a,.bool deep] w fun e w'=>∃X',e=.returned (.bool true)/\be_ w0 w' X'/\X'.key=X.key/\X'.T.bs=X.T.bs/\X'.T.st=X.T.st/\(∀i,i<X.m.length->X'.pos i=X.pos i)/\X'.m=m1/\X'.M.m=m2:=by
 cases hha:has X.m a with
 |false=>
  rw[if_pos hha]at e1 e2;refine(nj_ w0 w X a deep h n1 hfw hha).mono ?_;rintro e w' ⟨rfl,hX⟩;exact⟨X,rfl,hX,rfl,rfl,rfl,(fun _ _=>rfl),e1.symm,e2.symm⟩
 |true=>
  rw[if_neg (by rw[hha];simp)]at e1 e2;subst e1 e2
  by_cases hk1:(nd X.m a).kind=1
  ·exact cpy_doc w0 w X a deep h n1 hfw hha hk1 hA hA2 hkeep
  ·exact ni_ w0 w X a deep h n1 hfw hha hk1 hA hA2 hkeep
theorem do8(w0 w:World)(X:Tw)(o:G.Op)(k:Nat)(h:be_ w0 w X)(hF:Fit w0 X o k)(hk:o.kind % 10=8) :
  Calls Tryz.prog 24 #[.pointer (some ⟨X.tb,0,none⟩),opV o] w fun e w'=>i2_ w0 w X o e w':=by
 have hl:=h.pos_len;obtain⟨e1,e2,e3,n1,n2,n3,q1,q2⟩:=cn_ o hl hF.few hF.u8 X.m rfl;have HOV:=di_ o;rw[HOV.out];have ek:Int.tmod (o.kind:Int) 10=8:=by rw[show(10:Int)=((10:Nat):Int)from rfl,<-Int.ofNat_tmod,hk];rfl
 obtain⟨hb1,HO1,HN0⟩:=dh_ w o;have H1:=hi_ (h.below hb1);have HB1:=hi_ hb1;obtain⟨g,cap,hv,_,hcap,_⟩:=h.toMid.cells hl;have HF:=hi_ hF;obtain⟨⟨ha1,ha2,ha3,hfw⟩,⟨wa1,wa2,wa3⟩,wn1,wc1,hn0,hn00,hn1,hn11⟩:=bW_ hF hl;clear hb1 HOV
 go_enter Tryz.func24,Tryz.ntmps24
 obtain⟨c0,c1,c2,hlt⟩:=cells3 H1.out.blk;obtain⟨o0,o1,o2,o3,o4,o5,o6,o7⟩:=a8_ HO1.out;have hlo:=HO1.out.lt;rw[hv]at c2;go_upto_region 2 with fail
 go_quiet (fail)
 rw[jY_ rfl hfw];have H2:=hi_ (H1.out.below (bdN (br_) nq));have HO2:=hi_ (HO1.out.below (bdN (br_) nq));have HB2:=hi_ (bdN HB1.out nq);have HN2:=hi_ (HN0.out nq);clear HN0;clear H1 HO1 HB1 c0 c1 c2 hlt o0 o1 o2 o3 o4 o5 o6 o7 hlo;generalize (w.alloc (.cells #[.int .u8 o.kind,.int .u8 o.a,.int .u8 o.b,.int .u8 o.c,.string ⟨o.s.toArray⟩,.string ⟨o.t.toArray⟩,.int .i8 o.n,.int .i8 o.k] 65)).drewN nq=w2 at *;obtain⟨c0,c1,c2,hlt⟩:=cells3 H2.out.blk;obtain⟨o0,o1,o2,o3,o4,o5,o6,o7⟩:=a8_ HO2.out;have hlo:=HO2.out.lt;rw[hv]at c2;have QH:=hi_ (fun(i:Nat) W (hb:Below w2.heap.size w2 W)=>gf_ X.M i W (H2.out.model.below hb));have HSm:=hi_ h.sim;have HV:=hi_ hv;have hst1:=nM_ (lim:=some 64) (m:=X.m) hk;have hst2:=nM_ (lim:=none) (m:=X.M.m) (o:=o) hk
 have hat:o.at_ X.M.m=o.at_ X.m:=by unfold Op.at_;rw[h.sim.len]
 rw[hat,<-h.sim.has]at hst2;obtain⟨a,ha⟩:∃a,a=o.at_ X.m:=⟨_,rfl⟩;rw[<-ha]at hst1 hst2 n1 ⊢;have hr1:(G.step (some 64) X.m o).1=[]:=by rw[hst1];split<;>rfl
 have HR1:=hi_ hr1;have hm1:(G.step (some 64) X.m o).2.2=if has X.m a=false then X.m else(a2_ X.m a (decide (0<o.n))).2:=by rw[hst1];split<;>rfl
 have hm2:(G.step none X.M.m o).2.2=if has X.m a=false then X.M.m else(a2_ X.M.m a (decide (0<o.n))).2:=by rw[hst2];split<;>rfl
 have QC:=hi_ (fun(deep:Bool) (hd:deep=decide (0<o.n))=>copy71 w0 w2 X a deep H2.out n1 hfw (fun i=>by have h1:=(hF.ok1 i);have hk2:=hF.k200;exact Nat.le_trans h1.1 (by omega)) (fun i=>by have h1:=(hF.ok2 i);have hk2:=hF.k200;exact Nat.le_trans h1.1 (by omega)) _ _ (by rw[hd];exact hm1) (by rw[hd];exact hm2) hF.keep);clear hst1 hst2 hat ha h hF e1 e2 e3 wa1 wa2 wa3 wn1 wc1 hn0 hn00 hn1 hn11 q1 q2 hr1 hm1 hm2;go_wp2_with fail
 refine(QH.out a w2 (br_)).mono ?_;rintro e w2' ⟨rfl,rfl⟩;generalize has X.M.m a=hh at *
 rcases Int.lt_or_le 0 o.n with hN|hN
 ·have Q:=hi_ (QC.out true (decide_eq_true hN).symm)
  clear QC QH;go_wp2_with fail
  refine Q.out.mono ?_;rintro e w3 ⟨X',rfl,hX,ht,hb,hs,hp,hm,hM⟩;have HP:=hi_ (⟨hX,ht,hb,hs,hp,hm,hM⟩:_/\_/\_/\_/\_/\_/\_);clear hX ht hb hs hp hm hM Q;go_wp2_with fail
  refine bodyPost_ret (v:=.tuple #[.slice none 0 0,.bool true]) (by simp[results,Tryz.results24,go_sem]) rfl ⟨_,_,X',rfl,HP.out.1,HP.out.2.1,HP.out.2.2.1,HP.out.2.2.2.1,HP.out.2.2.2.2.1,HP.out.2.2.2.2.2.1,HP.out.2.2.2.2.2.2,by rw[HR1.out];exact ax_.nil _ _ _ _,fun _ _=>rfl⟩
 ·have hN2:decide (0<o.n)=false:=decide_eq_false (by omega)
  have Q:=hi_ (QC.out false hN2.symm);clear QC QH hN;go_wp2_with fail
  refine Q.out.mono ?_;rintro e w3 ⟨X',rfl,hX,ht,hb,hs,hp,hm,hM⟩;have HP:=hi_ (⟨hX,ht,hb,hs,hp,hm,hM⟩:_/\_/\_/\_/\_/\_/\_);clear hX ht hb hs hp hm hM Q;go_wp2_with fail
  refine bodyPost_ret (v:=.tuple #[.slice none 0 0,.bool true]) (by simp[results,Tryz.results24,go_sem]) rfl ⟨_,_,X',rfl,HP.out.1,HP.out.2.1,HP.out.2.2.1,HP.out.2.2.2.1,HP.out.2.2.2.2.1,HP.out.2.2.2.2.2.1,HP.out.2.2.2.2.2.2,by rw[HR1.out];exact ax_.nil _ _ _ _,fun _ _=>rfl⟩
end A
end
end Go.Proofs.YtinphfpdfodkkaaGreatDoor
