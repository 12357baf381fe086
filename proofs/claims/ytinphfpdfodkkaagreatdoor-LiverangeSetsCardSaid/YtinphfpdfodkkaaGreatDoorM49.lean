/- Texts of the proof. -/
import Derived.Test.YtinphfpdfodkkaaGreatDoorM47
import Derived.Test.YtinphfpdfodkkaaGreatDoorM46
import Derived.Test.YtinphfpdfodkkaaGreatDoorM48
import Derived.Test.YtinphfpdfodkkaaGreatDoorM38
import Derived.Test.YtinphfpdfodkkaaGreatDoorM45
import Derived.Test.YtinphfpdfodkkaaGreatDoorM39
import Derived.Test.YtinphfpdfodkkaaGreatDoorM36
import Derived.Test.YtinphfpdfodkkaaGreatDoorM37
import Derived.Test.YtinphfpdfodkkaaGreatDoorM35
import Derived.Deep.Slices
import Derived.OpenShut
set_option linter.unusedVariables false
set_option linter.unusedSimpArgs false
set_option maxHeartbeats 8000000
set_option maxRecDepth 100000
namespace Go.Proofs.YtinphfpdfodkkaaGreatDoor
section
open Go.RowKit Go.Sort
namespace A
open H G R
theorem step_8{lim:Option Nat}{m:Model}{o:G.Op}(hk:o.kind % 10=8):G.step lim m o=if has m (o.at_ m)=false then([],6,m) else([],copyOf m (o.at_ m) (decide (0<o.n))):=by
 unfold G.step;rw[if_neg (by omega),if_neg (by omega)]
 split
 ·rfl
 ·repeat (first|rw[if_pos hk]|rw[if_neg (by omega)])
theorem copy71(w0 w:World)(X:Tw)(a:Nat)(deep:Bool)(h:TwIs w0 w X)(n1:a<X.m.length)(hfw:X.m.length<=2000)(hA:∀i,(nd X.m i).attrs.length<=100000)(hA2:∀i,(nd X.M.m i).attrs.length<=100000)
  (m1 m2:Model) (e1:m1=if has X.m a=false then X.m else(copyOf X.m a deep).2) (e2:m2=if has X.m a=false then X.M.m else(copyOf X.M.m a deep).2) (hkeep:Sim m1 m2) :
  Calls Tryz.prog 71 #[.pointer (some ⟨X.tb,0,none⟩),.int .i64 (a:Nat),.bool deep] w fun e w'=>∃X',e=.returned (.bool true)/\TwIs w0 w' X'/\X'.tb=X.tb/\X'.T.bs=X.T.bs/\X'.T.st=X.T.st/\X'.m=m1/\X'.M.m=m2:=by
 cases hha:has X.m a with
 |false=>
  rw[if_pos hha]at e1 e2;refine(cpy_gone w0 w X a deep h n1 hfw hha).mono ?_;rintro e w' ⟨rfl,hX⟩;exact⟨X,rfl,hX,rfl,rfl,rfl,e1.symm,e2.symm⟩
 |true=>
  rw[if_neg (by rw[hha];simp)]at e1 e2;subst e1 e2
  by_cases hk1:(nd X.m a).kind=1
  ·exact cpy_doc w0 w X a deep h n1 hfw hha hk1 hA hA2 hkeep
  ·exact cpy_node w0 w X a deep h n1 hfw hha hk1 hA hA2 hkeep
theorem do9_1(w0 w:World)(X:Tw)(o:G.Op)(k:Nat)(h:TwIs w0 w X)(hF:Fit w0 X o k)(hk:o.kind % 10=9)(hha:has X.m (o.at_ X.m)=false) :
  Calls Tryz.prog 24 #[.pointer (some ⟨X.tb,0,none⟩),opV o] w fun e w'=>DoIs w0 w X o e w':=by
 have hl:=h.pos_len;obtain⟨e1,e2,e3,n1,n2,n3,q1,q2⟩:=op_nums o hl hF.few hF.u8 X.m rfl;have HOV:=opV_eq o;rw[HOV.out];have ek:Int.tmod (o.kind:Int) 10=9:=by rw[show(10:Int)=((10:Nat):Int)from rfl,<-Int.ofNat_tmod,hk];rfl
 obtain⟨hb1,HO1,HN0⟩:=op_box w o;have H1:=hi_ (h.below hb1);have HB1:=hi_ hb1;obtain⟨g,cap,hv,_,hcap,_⟩:=h.toMid.cells hl;have HF:=hi_ hF;obtain⟨⟨ha1,ha2,ha3,hfw⟩,⟨wa1,wa2,wa3⟩,wn1,wc1,hn0,hn00,hn1,hn11⟩:=do_facts hF hl;clear hb1 HOV
 go_enter Tryz.func24,Tryz.ntmps24
 obtain⟨c0,c1,c2,hlt⟩:=cells3 H1.out.blk;obtain⟨o0,o1,o2,o3,o4,o5,o6,o7⟩:=cells8 HO1.out;have hlo:=HO1.out.lt;rw[hv]at c2;go_upto_region 2 with fail
 go_quiet (fail)
 rw[op_c rfl hfw];have H2:=hi_ (H1.out.below (bdN (Below.refl _ _) nq));have HO2:=hi_ (HO1.out.below (bdN (Below.refl _ _) nq));have HB2:=hi_ (bdN HB1.out nq);have HN2:=hi_ (HN0.out nq);clear HN0;clear H1 HO1 HB1 c0 c1 c2 hlt o0 o1 o2 o3 o4 o5 o6 o7 hlo;generalize (w.alloc (.cells #[.int .u8 (o.kind:Nat),.int .u8 (o.a:Nat),.int .u8 (o.b:Nat),.int .u8 (o.c:Nat),.string ⟨o.s.toArray⟩,.string ⟨o.t.toArray⟩,.int .i8 o.n,.int .i8 o.k] 65)).drewN nq=w2 at *;obtain⟨c0,c1,c2,hlt⟩:=cells3 H2.out.blk;obtain⟨o0,o1,o2,o3,o4,o5,o6,o7⟩:=cells8 HO2.out;have hlo:=HO2.out.lt;rw[hv]at c2;have QH:=hi_ (fun(i:Nat) W (hb:Below w2.heap.size w2 W)=>mHas X.M i W (H2.out.model.below hb));have HSm:=hi_ h.sim;have HV:=hi_ hv;have hst1:=step_9 (lim:=some 64) (m:=X.m) hk
 have hst2:=step_9 (lim:=none) (m:=X.M.m) (o:=o) hk;have hat:o.at_ X.M.m=o.at_ X.m:=by unfold Op.at_;rw[h.sim.len]
 rw[hat,<-h.sim.has]at hst2;obtain⟨a,ha⟩:∃a,a=o.at_ X.m:=⟨_,rfl⟩;rw[<-ha]at hst1 hst2 n1 hha ⊢;have HSt1:=hi_ hst1;have HSt2:=hi_ hst2;clear hst1 hst2 hat ha h hF e1 e2 e3 wa1 wa2 wa3 wn1 wc1 hn0 hn00 hn1 hn11 q1 q2;go_wp2_with fail
 refine(QH.out a w2 (Below.refl _ _)).mono ?_;rintro e w2' ⟨rfl,rfl⟩;rw[<-HSm.out.has];have hz:=H2.out.toMid.get hv n1;have hgl:=hz.2.2;have hai:(a:Int)<(X.m.length:Int):=by omega
 have ha0:(0:Int)<=(a:Int):=by omega
 have D0:=lc_ c0 hlt;have D2:=lc_ c2 hlt;rw[hv1_gone hha]at hz;have DZ:=fun d:Later w2.heap.size w2=>Later.cell hz.1 hgl d;have HR1:Hid (G.step (some 64) X.m o=([],6,X.m)):=hi_ (by rw[HSt1.out,if_pos hha]);have HR2:Hid (G.step none X.M.m o=([],6,X.M.m)):=hi_ (by rw[HSt2.out,if_pos hha]);have QN:=hi_ (fun W (hb:Below w2.heap.size w2 W)=>drop_none X.T (-1) W (H2.out.below hb).tree.mem (by omega) (by omega) (ptr_gone H2.out.tree.fits 1));rw[hha];clear hha;go_upto_region 8 with fail
 refine wp_region_mid 11 _ _ (by kernel_rfl) (by kernel_rfl) rfl ?_;simp only[List.take_succ_cons,List.take_zero];repeat (go_big_quiet_step (fail))
 refine wq_ (fun dq=>?_);intro K hK;have HD3:=hi_ dq.h;clear D0 D2 DZ;generalize dq.w=w3 at *;go_simp
 go_at_call 72
 refine(QN.out w3 HD3.out).mono ?_;rintro e w4 ⟨rfl,hb4⟩;have HB4:=bt_ HD3 hb4;go_simp
 refine hK _ _ (midQ_normal ?_);clear hK K;repeat (go_big_quiet_step (fail))
 refine wq_ (fun dq=>?_);have HB5:=bt_ HB4 dq.h;generalize dq.w=wB at *;have H5:=hi_ (H2.out.below HB5.out);have HSw:=hi_ (fun W (fr:H.Frame (fun k=>k=g) wB W)=>H5.out.sweep HV.out (H.Frame.refl _ _) (H.Frame.refl _ _) H5.out.model (MLike.refl _ _) fr);have HR0:=hi_ (H5.out.row0 (H.Frame.refl _ _) (H.Frame.refl _ _) (hv1 X.T X.pos X.m));have HKp:Hid (∀j,j<X.m.length->has X.M.m j=true->hv1 X.T X.pos X.m j=hv1 X.T X.pos X.m j):=hi_ (fun _ _ _=>rfl);have HGn:Hid (∀j,has X.M.m j=false->hv1 X.T X.pos X.m j=-1):=hi_ (fun j hj=>hv1_gone (by rw[HSm.out.has];exact hj));have HEnd:=hi_ (fun W (fr:H.Frame (fun k=>k=g) wB W) hro=>H5.out.dropped HV.out (H.Frame.refl _ _) (Goes.refl _ _) H5.out.tree (H.Frame.refl _ _) H5.out.model (MLike.refl _ _) HSm.out rfl rfl fr hro);clear c0 c1 c2 hlt o0 o1 o2 o3 o4 o5 o6 o7 hlo hz hgl
 go_wp2_with fail
 go_loopw [40] (fun v40 wr => ∃ (j : Nat), v40 = .int .i64 (j : Nat) ∧ j ≤ X.m.length ∧ Hid (H.Frame (fun k => k = g) wB wr) ∧ Hid (wr.ownsRow X.B 3 1 X.hv X.m.length (intVs (mixL (hv1 X.T X.pos X.m) (hv1 X.T X.pos X.m) X.m.length j))))
   (fun v40 _=>X.m.length-(Go.RowKit.intOf v40).toNat)
 case atStart=>exact⟨0,rfl,Nat.zero_le _,hi_ (H.Frame.refl _ _),HR0⟩
 case round=>
  obtain⟨j,rfl,hj,HFr,HRo⟩:=hrel
  rcases Nat.lt_or_ge j X.m.length with hlt|hge
  ·have hii:(j:Int)<(X.m.length:Int):=by omega
   have hj0:(0:Int)<=(j:Int):=by omega
   obtain⟨hmr,hbr⟩:=HSw.out wr HFr.out;obtain⟨c0',c1',c2',hlt'⟩:=cells3 hbr;obtain⟨⟨u,hcu⟩,hfu⟩:=sweep_cell HV.out HRo.out hlt;have Q:=hi_ (mHas X.M j wr hmr);have HSame:=hi_ (HKp.out j hlt);have HGone:=hi_ (HGn.out j);clear hmr hbr;go_wp2_with fail
   refine Q.out.mono ?_;rintro e wr' ⟨rfl,rfl⟩
   cases hg:has X.M.m j with
   |true=>
    have HRo2:=hi_ (show wr.ownsRow X.B 3 1 X.hv X.m.length (intVs (mixL (hv1 X.T X.pos X.m) (hv1 X.T X.pos X.m) X.m.length (j+1))) by rw[mixL_same _ _ _ _ rfl];exact HRo.out);clear hg;go_wp2_with fail
    go_roundw
    case rel=>exact⟨j+1,by go_num,by omega,HFr,HRo2⟩
    case measure=>simp[Go.RowKit.intOf];omega
   |false=>
    have HRo2:=hi_ (sweep_row HV.out HRo.out hlt (HGone.out hg));have HFr2:=hi_ (HFr.out.set (g:=g) (Or.inl rfl) j (.int .i64 (-1)));clear hg;go_wp2_with fail
    go_roundw
    case rel=>exact⟨j+1,by go_num,by omega,HFr2,HRo2⟩
    case measure=>simp[Go.RowKit.intOf];omega
  ·have hje:j=X.m.length:=by omega
   subst hje;have hnot:¬((X.m.length:Nat):Int)<((X.m.length:Nat):Int):=by omega
   have HX:=hi_ (HEnd.out wr HFr.out HRo.out);go_wp2_with fail
   refine bodyPost_ret (v:=.tuple #[.slice none 0 0,.bool true]) (by simp[results,Tryz.results24,go_sem]) rfl ⟨_,_,_,rfl,HX.out,rfl,rfl,rfl,by rw[HR1.out],by rw[HR2.out],by rw[HR1.out];exact RecsAt.nil _ _ _ _,fun _ _=>rfl⟩
theorem do8(w0 w:World)(X:Tw)(o:G.Op)(k:Nat)(h:TwIs w0 w X)(hF:Fit w0 X o k)(hk:o.kind % 10=8) :
  Calls Tryz.prog 24 #[.pointer (some ⟨X.tb,0,none⟩),opV o] w fun e w'=>DoIs w0 w X o e w':=by
 have hl:=h.pos_len;obtain⟨e1,e2,e3,n1,n2,n3,q1,q2⟩:=op_nums o hl hF.few hF.u8 X.m rfl;have HOV:=opV_eq o;rw[HOV.out];have ek:Int.tmod (o.kind:Int) 10=8:=by rw[show(10:Int)=((10:Nat):Int)from rfl,<-Int.ofNat_tmod,hk];rfl
 obtain⟨hb1,HO1,HN0⟩:=op_box w o;have H1:=hi_ (h.below hb1);have HB1:=hi_ hb1;obtain⟨g,cap,hv,_,hcap,_⟩:=h.toMid.cells hl;have HF:=hi_ hF;obtain⟨⟨ha1,ha2,ha3,hfw⟩,⟨wa1,wa2,wa3⟩,wn1,wc1,hn0,hn00,hn1,hn11⟩:=do_facts hF hl;clear hb1 HOV
 go_enter Tryz.func24,Tryz.ntmps24
 obtain⟨c0,c1,c2,hlt⟩:=cells3 H1.out.blk;obtain⟨o0,o1,o2,o3,o4,o5,o6,o7⟩:=cells8 HO1.out;have hlo:=HO1.out.lt;rw[hv]at c2;go_upto_region 2 with fail
 go_quiet (fail)
 rw[op_c rfl hfw];have H2:=hi_ (H1.out.below (bdN (Below.refl _ _) nq));have HO2:=hi_ (HO1.out.below (bdN (Below.refl _ _) nq));have HB2:=hi_ (bdN HB1.out nq);have HN2:=hi_ (HN0.out nq);clear HN0;clear H1 HO1 HB1 c0 c1 c2 hlt o0 o1 o2 o3 o4 o5 o6 o7 hlo;generalize (w.alloc (.cells #[.int .u8 (o.kind:Nat),.int .u8 (o.a:Nat),.int .u8 (o.b:Nat),.int .u8 (o.c:Nat),.string ⟨o.s.toArray⟩,.string ⟨o.t.toArray⟩,.int .i8 o.n,.int .i8 o.k] 65)).drewN nq=w2 at *;obtain⟨c0,c1,c2,hlt⟩:=cells3 H2.out.blk;obtain⟨o0,o1,o2,o3,o4,o5,o6,o7⟩:=cells8 HO2.out;have hlo:=HO2.out.lt;rw[hv]at c2;have QH:=hi_ (fun(i:Nat) W (hb:Below w2.heap.size w2 W)=>mHas X.M i W (H2.out.model.below hb));have HSm:=hi_ h.sim;have HV:=hi_ hv;have hst1:=step_8 (lim:=some 64) (m:=X.m) hk
 have hst2:=step_8 (lim:=none) (m:=X.M.m) (o:=o) hk;have hat:o.at_ X.M.m=o.at_ X.m:=by unfold Op.at_;rw[h.sim.len]
 rw[hat,<-h.sim.has]at hst2;obtain⟨a,ha⟩:∃a,a=o.at_ X.m:=⟨_,rfl⟩;rw[<-ha]at hst1 hst2 n1 ⊢;have hr1:(G.step (some 64) X.m o).1=[]:=by rw[hst1];split<;>rfl
 have HR1:=hi_ hr1;have hm1:(G.step (some 64) X.m o).2.2=if has X.m a=false then X.m else(copyOf X.m a (decide (0<o.n))).2:=by rw[hst1];split<;>rfl
 have hm2:(G.step none X.M.m o).2.2=if has X.m a=false then X.M.m else(copyOf X.M.m a (decide (0<o.n))).2:=by rw[hst2];split<;>rfl
 have QC:=hi_ (fun(deep:Bool) (hd:deep=decide (0<o.n))=>copy71 w0 w2 X a deep H2.out n1 hfw (fun i=>by have h1:=(hF.ok1 i);have hk2:=hF.k200;exact Nat.le_trans h1.1 (by omega)) (fun i=>by have h1:=(hF.ok2 i);have hk2:=hF.k200;exact Nat.le_trans h1.1 (by omega)) _ _ (by rw[hd];exact hm1) (by rw[hd];exact hm2) hF.keep);clear hst1 hst2 hat ha h hF e1 e2 e3 wa1 wa2 wa3 wn1 wc1 hn0 hn00 hn1 hn11 q1 q2 hr1 hm1 hm2;go_wp2_with fail
 refine(QH.out a w2 (Below.refl _ _)).mono ?_;rintro e w2' ⟨rfl,rfl⟩;generalize has X.M.m a=hh at *
 rcases Int.lt_or_le 0 o.n with hN|hN
 ·have Q:=hi_ (QC.out true (decide_eq_true hN).symm)
  clear QC QH;go_wp2_with fail
  refine Q.out.mono ?_;rintro e w3 ⟨X',rfl,hX,ht,hb,hs,hm,hM⟩;have HP:=hi_ (⟨hX,ht,hb,hs,hm,hM⟩:_/\_/\_/\_/\_/\_);clear hX ht hb hs hm hM Q;go_wp2_with fail
  refine bodyPost_ret (v:=.tuple #[.slice none 0 0,.bool true]) (by simp[results,Tryz.results24,go_sem]) rfl ⟨_,_,X',rfl,HP.out.1,HP.out.2.1,HP.out.2.2.1,HP.out.2.2.2.1,HP.out.2.2.2.2.1,HP.out.2.2.2.2.2,by rw[HR1.out];exact RecsAt.nil _ _ _ _,fun _ _=>rfl⟩
 ·have hN2:decide (0<o.n)=false:=decide_eq_false (by omega)
  have Q:=hi_ (QC.out false hN2.symm);clear QC QH hN;go_wp2_with fail
  refine Q.out.mono ?_;rintro e w3 ⟨X',rfl,hX,ht,hb,hs,hm,hM⟩;have HP:=hi_ (⟨hX,ht,hb,hs,hm,hM⟩:_/\_/\_/\_/\_/\_);clear hX ht hb hs hm hM Q;go_wp2_with fail
  refine bodyPost_ret (v:=.tuple #[.slice none 0 0,.bool true]) (by simp[results,Tryz.results24,go_sem]) rfl ⟨_,_,X',rfl,HP.out.1,HP.out.2.1,HP.out.2.2.1,HP.out.2.2.2.1,HP.out.2.2.2.2.1,HP.out.2.2.2.2.2,by rw[HR1.out];exact RecsAt.nil _ _ _ _,fun _ _=>rfl⟩
end A
end
section
open Go.RowKit Go.Sort
namespace G
def okOp(o:Op):Bool:=decide (o.s.length<=40) && decide (o.t.length<=40)
def few(os:List Op):Bool:=os.all okOp && decide (os.length<=60)
end G
namespace A
open H G R
def ocells(o:G.Op):List Value:=[.int .u8 (o.kind:Nat),.int .u8 (o.a:Nat),.int .u8 (o.b:Nat),.int .u8 (o.c:Nat),.string ⟨o.s.toArray⟩,.string ⟨o.t.toArray⟩,.int .i8 o.n,.int .i8 o.k]
def OpsAt(w:World)(v:Value)(os:List G.Op):Prop:=
 ∃ao cap,v=.slice ao os.length cap/\(0<os.length->∃b off,ao=some ⟨b,off,none⟩/\b<w.heap.size/\∀j (hj:j<os.length) k,k<8->w.cell? ⟨b,off+j*8+k,none⟩=(ocells os[j])[k]?)
theorem OpsAt.below{w w':World}{v:Value}{os:List G.Op}(h:OpsAt w v os)(hb:Below w.heap.size w w'):OpsAt w' v os:=by
 obtain⟨ao,cap,hv,h⟩:=h;refine⟨ao,cap,hv,fun hl=>?_⟩;obtain⟨b,off,e,hlt,hc⟩:=h hl;refine⟨b,off,e,Nat.lt_of_lt_of_le hlt hb.size,fun j hj k hk=>?_⟩;rw[<-hc j hj k hk];have:=hb.block b hlt;simp only[World.cell?,this]
theorem OpsAt.at{w:World}{ao:Option Addr}{n cap:Nat}{os:List G.Op}(h:OpsAt w (.slice ao n cap) os)(hl:0<os.length):∃b off,ao=some ⟨b,off,none⟩/\b<w.heap.size/\∀j (hj:j<os.length) k,k<8->w.cell? ⟨b,off+j*8+k,none⟩=(ocells os[j])[k]?:=by
 obtain⟨ao',cap',hv,h⟩:=h;injection hv with h1 h2 h3
 subst h1;exact h hl
theorem few_all{os:List G.Op}(h:∀o,o∈os->okOp o=true):few os=decide (os.length<=60):=by
 unfold few;rw[List.all_eq_true.2 h,Bool.true_and]
theorem few_bad{os:List G.Op}{o:G.Op}(ho:o∈os)(h:okOp o=false):few os=false:=by
 unfold few;have:os.all okOp=false:=by
  rw[Bool.eq_false_iff];intro e;have:=List.all_eq_true.1 e o ho;rw[h]at this
  cases this
 rw[this,Bool.false_and]
theorem few_(os:List G.Op)(v:Value)(w:World)(h:OpsAt w v os)(hl:os.length<=9223372036854775807) :
  Calls Tryz.prog 10 #[v] w fun e w'=>e=.returned (.bool (few os))/\w=w':=by
 obtain⟨ao,cap,hv,_⟩:=id h;subst hv;have HR:=hi_ h;clear h;obtain⟨R,hR⟩:∃R,R=few os:=⟨_,rfl⟩;have HRr:=hi_ hR;rw[<-hR];clear hR
 go_enter Tryz.func10,Tryz.ntmps10
 go_wp2_with fail
 go_loopw [3] (fun v3 wr=>∃i:Nat,v3=.int .i64 (i:Nat)/\i<=os.length/\wr=w/\Hid (∀j (hj:j<os.length),j<i->okOp os[j]=true))
  (fun v3 _=>os.length-(Go.RowKit.intOf v3).toNat)
 case atStart=>exact⟨0,rfl,Nat.zero_le _,rfl,hi_ (fun j _ hj=>by omega)⟩
 case round=>
  obtain⟨i,rfl,hi,rfl,HI⟩:=hrel
  rcases Nat.lt_or_ge i os.length with hlt|hge
  ·have hii:(i:Int)<(os.length:Int):=by omega
   have hi0:(0:Int)<=(i:Int):=by omega
   obtain⟨g,off,e1,hgl,hcc⟩:=HR.out.at (by omega);subst e1;have c4':wr.cell? ⟨g,off+i*8+4,none⟩=some (.string ⟨os[i].s.toArray⟩):=hcc i hlt 4 (by omega);have c5':wr.cell? ⟨g,off+i*8+5,none⟩=some (.string ⟨os[i].t.toArray⟩):=hcc i hlt 5 (by omega);clear hcc;have HIm:=hi_ (List.getElem_mem hlt);have HNx:Hid (okOp os[i]=true->∀j (hj:j<os.length),j<i+1->okOp os[j]=true):=hi_ (fun ho j hj hj2=>by
    rcases Nat.lt_or_ge j i with h1|h1
    ·exact HI.out j hj h1
    ·have:j=i:=by omega
     subst this;exact ho)
   generalize os[i]=o at *
   by_cases hs:o.s.length<=40
   ·have hs2:decide ((40:Int)<(o.s.length:Int))=false:=decide_eq_false (by omega)
    by_cases ht:o.t.length<=40
    ·have ht2:decide ((40:Int)<(o.t.length:Int))=false:=decide_eq_false (by omega)
     have HN2:=hi_ (HNx.out (by unfold okOp;rw[decide_eq_true hs,decide_eq_true ht];rfl));clear hs ht;go_wp2_with fail
     go_roundw
     case rel=>exact⟨i+1,by go_num,by omega,trivial,HN2⟩
     case measure=>simp[Go.RowKit.intOf];omega
    ·have ht2:decide ((40:Int)<(o.t.length:Int))=true:=decide_eq_true (by omega)
     have HB:Hid (R=false):=hi_ (HRr.out.trans (few_bad HIm.out (by unfold okOp;rw[decide_eq_true hs,decide_eq_false ht];rfl)));clear hs ht;go_wp2_with fail
     exact bodyPost_ret (v:=.bool false) (by simp[results,Tryz.results10,go_sem]) rfl ⟨by rw[HB.out],rfl⟩
   ·have hs2:decide ((40:Int)<(o.s.length:Int))=true:=decide_eq_true (by omega)
    have HB:Hid (R=false):=hi_ (HRr.out.trans (few_bad HIm.out (by unfold okOp;rw[decide_eq_false hs];rfl)));clear hs;go_wp2_with fail
    exact bodyPost_ret (v:=.bool false) (by simp[results,Tryz.results10,go_sem]) rfl ⟨by rw[HB.out],rfl⟩
  ·have hie:i=os.length:=by omega
   have HB:Hid (R=decide (os.length<=60)):=hi_ (HRr.out.trans (few_all (fun o ho=>by
    obtain⟨j,hj,e⟩:=List.getElem_of_mem ho;rw[<-e];exact HI.out j hj (by omega))))
   subst hie;have hnot:¬((os.length:Nat):Int)<((os.length:Nat):Int):=by omega
   have HE:Hid (decide ((os.length:Int)<=60)=decide (os.length<=60)):=hi_ (by congr 1;exact propext ⟨fun h=>by omega,fun h=>by omega⟩);go_wp2_with fail
   exact bodyPost_ret (v:=.bool (decide ((os.length:Int)<=60))) (by simp[results,Tryz.results10,go_sem]) rfl ⟨by rw[HB.out,HE.out],rfl⟩
end A
end
section
open Go.RowKit Go.Sort
namespace A
open H G R
theorem do_(w0 w:World)(X:Tw)(o:G.Op)(k:Nat)(h:TwIs w0 w X)(hF:Fit w0 X o k) :
  Calls Tryz.prog 24 #[.pointer (some ⟨X.tb,0,none⟩),opV o] w fun e w'=>DoIs w0 w X o e w':=by
 have hlt:o.kind % 10<10:=Nat.mod_lt _ (by omega)
 by_cases k0:o.kind % 10<3
 ·exact do012 w0 w X o k h hF k0
 by_cases k3:o.kind % 10=3
 ·cases hA:has X.m (o.at_ X.m) with
  |false=>exact do3_1 w0 w X o k h hF k3 hA
  |true=>
   cases hB:has X.m (o.bt X.m) with
   |false=>exact do3_2 w0 w X o k h hF k3 hA hB
   |true=>
    cases hC:o.ct X.m with
    |none=>exact do3_4 w0 w X o k h hF k3 hA hB hC
    |some ci=>
     cases hI:has X.m ci with
     |false=>exact do3_3 w0 w X o k h hF k3 hA hB ci hC hI
     |true=>exact do3_5 w0 w X o k h hF k3 hA hB ci hC hI
 by_cases k4:o.kind % 10=4
 ·exact do4 w0 w X o k h hF k4
 by_cases k5:o.kind % 10=5
 ·exact do5 w0 w X o k h hF k5
 by_cases k6:o.kind % 10=6
 ·exact do6 w0 w X o k h hF k6
 by_cases k7:o.kind % 10=7
 ·exact do7 w0 w X o k h hF k7
 by_cases k8:o.kind % 10=8
 ·exact do8 w0 w X o k h hF k8
 have k9:o.kind % 10=9:=by omega
 cases hA:has X.m (o.at_ X.m) with
 |false=>exact do9_1 w0 w X o k h hF k9 hA
 |true=>exact do9_2 w0 w X o k h hF k9 hA
end A
end
section
open Go.RowKit Go.Sort
namespace G
def runO:List Op->Model->Model
 |[],m=>m
 |o :: os,m=>if m.length<120 then runO os (step none m o).2.2 else m
theorem runO_stop{os:List Op}{m:Model}(h:¬m.length<120):runO os m=m:=by
 cases os with
 |nil=>rfl
 |cons o os=>rw[runO,if_neg h]
def Op.fits(o:Op):Prop:=(o.kind<256/\o.a<256/\o.b<256/\o.c<256)/\(-128<=o.n/\o.n<=127)/\(-128<=o.k/\o.k<=127)
end G
namespace A
open H G R
theorem fit_run{w wr:World}{X:Tw}{o:G.Op}{i:Nat}(h:TwIs w wr X)(hM:X.M.m=X.m)(hl:X.m.length<120)(hi:i<60)(hok:AllN (OkBod i) X.m)(ho:okOp o=true)(hf:o.fits)(ht:UTabs w):Fit w X o i/\G.step (some 64) X.m o=G.step none X.m o:=by
 have hs:G.step (some 64) X.m o=G.step none X.m o:=step_lim (fun j=>by have:=(hok j).1;unfold bod at this;dsimp only at this;omega);unfold okOp at ho;rw[Bool.and_eq_true,decide_eq_true_eq,decide_eq_true_eq]at ho;exact⟨⟨by omega,hok,by rw[hM];exact hok,by omega,ho.1,ho.2,hf.2.1,hf.2.2,hf.1,ht,Or.inl (by rw[hM,hs]),by rw[hM,hs];exact Sim.refl _⟩,hs⟩
end A
end
section
open Go.RowKit Go.Sort
namespace A
open H G R
theorem doc_ok:AllN (OkBod 0) [docNode]:=by
 intro j;have e:bod (nd [docNode] j)=([],[]):=by
  cases j with
  |zero=>rfl
  |succ j=>rfl
 rw[e];exact⟨by simp,rfl,by simp⟩
theorem start11(os:List G.Op)(v:Value)(w:World)(h:OpsAt w v os)(hfew:few os=true)(hf:∀o,o∈os->o.fits)(ht:UTabs w) :
  Calls Tryz.prog 11 #[v] w fun e w'=>∃X,e=.returned (.pointer (some ⟨X.tb,0,none⟩))/\TwIs w w' X/\X.M.m=X.m/\X.m=runO os [docNode]/\(∃i,i<=60/\AllN (OkBod i) X.m)/\X.m.length<=300/\X.T.bs=2/\X.T.st=2:=by
 obtain⟨ao,cap,hv,_⟩:=id h;subst hv;have HR:=hi_ h;have hfw:os.all okOp=true/\os.length<=60:=by
  unfold few at hfew;rw[Bool.and_eq_true,decide_eq_true_eq]at hfew;exact hfew
 have HOk:=hi_ (List.all_eq_true.1 hfw.1);have hlen:=hfw.2;have HFt:=hi_ hf;have HTb:=hi_ ht;have QS:=hi_ (fun W=>start36 2 2 W);clear h hfw hfew hf ht
 go_enter Tryz.func11,Tryz.ntmps11
 go_wp2_with fail
 refine(QS.out _).mono ?_;rintro e w1 ⟨X1,rfl,hX,hm,hM,hb,hs⟩;have H1:=hi_ (⟨hX,hm,hM,hb,hs⟩:_/\_/\_/\_/\_);obtain⟨tb,htb⟩:∃tb,tb=X1.tb:=⟨_,rfl⟩;have HTbb:=hi_ htb;rw[<-htb];clear hX hm hM hb hs QS htb;go_wp2_with fail
 go_loopw [4] (fun v4 wr=>∃(i:Nat) (X:Tw),v4=.int .i64 (i:Nat)/\i<=os.length/\Hid (X.tb=tb)/\Hid (TwIs w wr X)/\Hid (X.M.m=X.m)/\Hid (runO (os.drop i) X.m=runO os [docNode])/\Hid (AllN (OkBod i) X.m)/\Hid (X.T.bs=2/\X.T.st=2)/\Hid (X.m.length<=300))
  (fun v4 _=>os.length-(Go.RowKit.intOf v4).toNat)
 case atStart=>
  exact⟨0,X1,rfl,Nat.zero_le _,hi_ HTbb.out.symm,hi_ H1.out.1,hi_ (by rw[H1.out.2.1,H1.out.2.2.1]),hi_ (by rw[H1.out.2.1];rfl),hi_ (by rw[H1.out.2.1];exact doc_ok),hi_ H1.out.2.2.2,hi_ (by rw[H1.out.2.1];exact(by decide:1<=300))⟩
 case round=>
  obtain⟨i,X,rfl,hi,HXt,HX,HXm,HRun,HAl,HBs,HLn⟩:=hrel
  rcases Nat.lt_or_ge i os.length with hlt|hge
  ·have hii:(i:Int)<(os.length:Int):=by omega
   have hi0:(0:Int)<=(i:Int):=by omega
   obtain⟨c0,c1,c2,htl⟩:=cells3 HX.out.blk;have hlp:=HX.out.pos_len;obtain⟨gh,caph,hhv,_,_,_⟩:=HX.out.toMid.cells hlp;rw[hhv]at c2;rw[HXt.out]at c0 c1 c2 htl
   by_cases hsm:X.m.length<120
   ·have hs2:decide ((X.m.length:Int)<120)=true:=decide_eq_true (by omega)
    have hsi:(X.m.length:Int)<120:=by omega
    have HRr:Hid (OpsAt wr (.slice ao os.length cap) os):=hi_ (HR.out.below HX.out.bel);obtain⟨g,off,e1,hgl,hcc⟩:=HRr.out.at (by omega);subst e1;have k0:=hcc i hlt 0 (by omega);have k1:=hcc i hlt 1 (by omega);have k2:=hcc i hlt 2 (by omega);have k3:=hcc i hlt 3 (by omega);have k4:=hcc i hlt 4 (by omega);have k5:=hcc i hlt 5 (by omega);have k6:=hcc i hlt 6 (by omega);have k7:=hcc i hlt 7 (by omega);clear hcc;have hmem:os[i]∈os:=List.getElem_mem hlt;obtain⟨hF,hst⟩:=fit_run HX.out HXm.out hsm (by omega) HAl.out (HOk.out _ hmem) (HFt.out _ hmem) HTb.out;have hdr:os.drop i=os[i] :: os.drop (i+1):=List.drop_eq_getElem_cons hlt;have HRun2:Hid (runO (os.drop (i+1)) (G.step none X.m os[i]).2.2=runO os [docNode]):=hi_ (by
     have h1:=HRun.out;rw[hdr,runO,if_pos hsm]at h1;exact h1)
    have ho40:=HOk.out _ hmem;have HAl2:Hid (AllN (OkBod (i+1)) (G.step (some 64) X.m os[i]).2.2):=hi_ (ok_step HAl.out (by
     unfold okOp at ho40;rw[Bool.and_eq_true,decide_eq_true_eq,decide_eq_true_eq]at ho40;have:=U.rep_le os[i].t
     omega))
    have QD:=hi_ (do_ w wr X os[i] i HX.out hF);rw[HXt.out]at QD;have HSt:=hi_ hst;have HL2:Hid ((G.step (some 64) X.m os[i]).2.2.length<=300):=hi_ (by have:=step_few HX.out.tree.fits.wf (some 64) os[i];omega);generalize os[i]=o at *;have j0:wr.cell? ⟨g,off+i*8,none⟩=some (.int .u8 (o.kind:Nat)):=k0;have j1:wr.cell? ⟨g,off+i*8+1,none⟩=some (.int .u8 (o.a:Nat)):=k1;have j2:wr.cell? ⟨g,off+i*8+2,none⟩=some (.int .u8 (o.b:Nat)):=k2;have j3:wr.cell? ⟨g,off+i*8+3,none⟩=some (.int .u8 (o.c:Nat)):=k3;have j4:wr.cell? ⟨g,off+i*8+4,none⟩=some (.string ⟨o.s.toArray⟩):=k4;have j5:wr.cell? ⟨g,off+i*8+5,none⟩=some (.string ⟨o.t.toArray⟩):=k5;have j6:wr.cell? ⟨g,off+i*8+6,none⟩=some (.int .i8 o.n):=k6
    have j7:wr.cell? ⟨g,off+i*8+7,none⟩=some (.int .i8 o.k):=k7;clear k0 k1 k2 k3 k4 k5 k6 k7 hF hst hdr ho40 hmem;unfold opV at QD;go_wp2_with fail
    refine QD.out.mono ?_;rintro e w5 ⟨v5,b5,X',rfl,hX',ht',hb',hs',hm',hM',_,_⟩;have HX':=hi_ hX';have HXt':Hid (X'.tb=tb):=hi_ (ht'.trans HXt.out);have HXm':Hid (X'.M.m=X'.m):=hi_ (by rw[hM',hm',HXm.out,HSt.out]);have HRun':Hid (runO (os.drop (i+1)) X'.m=runO os [docNode]):=hi_ (by rw[hm',HSt.out];exact HRun2.out);have HAl':Hid (AllN (OkBod (i+1)) X'.m):=hi_ (by rw[hm'];exact HAl2.out);have HBs':Hid (X'.T.bs=2/\X'.T.st=2):=hi_ ⟨hb'.trans HBs.out.1,hs'.trans HBs.out.2⟩;have HLn':Hid (X'.m.length<=300):=hi_ (by rw[hm'];exact HL2.out);clear hX' ht' hb' hs' hm' hM' QD HAl2 HRun2 HL2;go_wp2_with fail
    go_roundw
    case rel=>exact⟨i+1,X',by go_num,by omega,HXt',HX',HXm',HRun',HAl',HBs',HLn'⟩
    case measure=>simp[Go.RowKit.intOf];omega
   ·have hs2:decide ((X.m.length:Int)<120)=false:=decide_eq_false (by omega)
    have hsn:¬(X.m.length:Int)<120:=by omega
    have HEq:Hid (X.m=runO os [docNode]):=hi_ (by rw[<-HRun.out,runO_stop hsm]);go_wp2_with fail
    refine bodyPost_ret (v:=.pointer (some ⟨tb,0,none⟩)) (by simp[results,Tryz.results11,go_sem]) rfl ⟨X,by rw[HXt.out],HX.out,HXm.out,HEq.out,⟨i,by omega,HAl.out⟩,HLn.out,HBs.out.1,HBs.out.2⟩
  ·have hie:i=os.length:=by omega
   have HEq:Hid (X.m=runO os [docNode]):=hi_ (by rw[<-HRun.out,hie,List.drop_length];rfl);subst hie;have hnot:¬((os.length:Nat):Int)<((os.length:Nat):Int):=by omega
   go_wp2_with fail
   refine bodyPost_ret (v:=.pointer (some ⟨tb,0,none⟩)) (by simp[results,Tryz.results11,go_sem]) rfl ⟨X,by rw[HXt.out],HX.out,HXm.out,HEq.out,⟨os.length,hlen,HAl.out⟩,HLn.out,HBs.out.1,HBs.out.2⟩
end A
end
section
open Go.ChangeShapes Go.WideShapes Go.RowKit
namespace A
open H G R
theorem wf_u8{n:Int}(h:(Lit.int .u8 n).wf=true):0<=n/\n<=255:=by
 simp[Lit.wf,IntKind.min,IntKind.max,IntKind.signed,IntKind.bits]at h;omega
theorem wf_i8{n:Int}(h:(Lit.int .i8 n).wf=true):-128<=n/\n<=127:=by
 simp[Lit.wf,IntKind.min,IntKind.max,IntKind.signed,IntKind.bits]at h;omega
theorem getOne{l:List Value}{i:Nat}{v:Value}(h:(l.drop i).take 1=[v]):l[i]?=some v:=by
 have:=congrArg (fun l:List Value=>l[0]?) h;simpa[List.getElem?_take,List.getElem?_drop]using this
section
variable {H:Type} {enc:TypeId×Value->H} {W:World}
theorem u8_at{spare:Nat->Bool}{held:Bool}{n:Nat}{l:List Value}{i:Nat}{x:DataW H×List MemPlace}(h:DataW.trod enc Tryz.prog W 0 spare held n 5 ((l.drop i).take 1)=some x):∃k:Nat,k<256/\l[i]?=some (.int .u8 (k:Nat)):=by
 obtain⟨z,h1,_,h2⟩:=DataW.trod_int Tryz.underlying5 h;have h3:=wf_u8 h2;refine⟨z.toNat,by omega,?_⟩;rw[Int.toNat_of_nonneg h3.1];exact getOne h1
theorem i8_at{spare:Nat->Bool}{held:Bool}{n:Nat}{l:List Value}{i:Nat}{x:DataW H×List MemPlace}(h:DataW.trod enc Tryz.prog W 0 spare held n 63 ((l.drop i).take 1)=some x):∃z:Int,(-128<=z/\z<=127)/\l[i]?=some (.int .i8 z):=by
 obtain⟨z,h1,_,h2⟩:=DataW.trod_int Tryz.underlying63 h;exact⟨z,wf_i8 h2,getOne h1⟩
theorem str_at{spare:Nat->Bool}{held:Bool}{n:Nat}{l:List Value}{i:Nat}{x:DataW H×List MemPlace}(h:DataW.trod enc Tryz.prog W 0 spare held n 9 ((l.drop i).take 1)=some x):∃s:List UInt8,l[i]?=some (.string ⟨s.toArray⟩):=by
 obtain⟨s,h1,_,h2⟩:=DataW.trod_string Tryz.underlying9 h;exact⟨s.data.toList,by rw[getOne h1]⟩
theorem op_at{spare:Nat->Bool}{held:Bool}{n:Nat}{cs:List Value}{x:DataW H×List MemPlace}(h:DataW.trod enc Tryz.prog W 0 spare held n 65 cs=some x):∃o:G.Op,o.fits/\∀k,k<8->cs[k]?=(ocells o)[k]?:=by
 obtain⟨xs,m,_,_,hcs,hxl,hf⟩:=DataW.trod_struct Tryz.underlying65 h;have c1:Tryz.prog.cellsOf 5 = 1:=by kernel_rfl
 have c2:Tryz.prog.cellsOf 9 = 1:=by kernel_rfl
 have c3:Tryz.prog.cellsOf 63 = 1:=by kernel_rfl
 have hx8:xs.length=8:=hxl;have g0:DataW.trod enc Tryz.prog W 0 spare held m 5 ((cs.drop 0).take (Tryz.prog.cellsOf 5))=xs[0]?:=hf 0 _ rfl;have g1:DataW.trod enc Tryz.prog W 0 spare held m 5 ((cs.drop 1).take (Tryz.prog.cellsOf 5))=xs[1]?:=hf 1 _ rfl;have g2:DataW.trod enc Tryz.prog W 0 spare held m 5 ((cs.drop 2).take (Tryz.prog.cellsOf 5))=xs[2]?:=hf 2 _ rfl;have g3:DataW.trod enc Tryz.prog W 0 spare held m 5 ((cs.drop 3).take (Tryz.prog.cellsOf 5))=xs[3]?:=hf 3 _ rfl;have g4:DataW.trod enc Tryz.prog W 0 spare held m 9 ((cs.drop 4).take (Tryz.prog.cellsOf 9))=xs[4]?:=hf 4 _ rfl;have g5:DataW.trod enc Tryz.prog W 0 spare held m 9 ((cs.drop 5).take (Tryz.prog.cellsOf 9))=xs[5]?:=hf 5 _ rfl
 have g6:DataW.trod enc Tryz.prog W 0 spare held m 63 ((cs.drop 6).take (Tryz.prog.cellsOf 63))=xs[6]?:=hf 6 _ rfl;have g7:DataW.trod enc Tryz.prog W 0 spare held m 63 ((cs.drop 7).take (Tryz.prog.cellsOf 63))=xs[7]?:=hf 7 _ rfl;rw[c1,List.getElem?_eq_getElem (by omega)]at g0 g1 g2 g3;rw[c2,List.getElem?_eq_getElem (by omega)]at g4 g5;rw[c3,List.getElem?_eq_getElem (by omega)]at g6 g7;obtain⟨k0,b0,e0⟩:=u8_at g0;obtain⟨k1,b1,e1⟩:=u8_at g1;obtain⟨k2,b2,e2⟩:=u8_at g2;obtain⟨k3,b3,e3⟩:=u8_at g3;obtain⟨s4,e4⟩:=str_at g4;obtain⟨s5,e5⟩:=str_at g5;obtain⟨k6,b6,e6⟩:=i8_at g6;obtain⟨k7,b7,e7⟩:=i8_at g7;refine⟨⟨k0,k1,k2,k3,s4,s5,k6,k7⟩,⟨⟨b0,b1,b2,b3⟩,b6,b7⟩,fun k hk=>?_⟩
 match k,hk with
 |0,_=>exact e0
 |1,_=>exact e1
 |2,_=>exact e2
 |3,_=>exact e3
 |4,_=>exact e4
 |5,_=>exact e5
 |6,_=>exact e6
 |7,_=>exact e7
instance:Inhabited G.Op:=⟨⟨0,0,0,0,[],[],0,0⟩⟩
theorem open_ops{ao:Option Addr}{len cap:Nat}{d:DataW H}{p:List MemPlace}
  (h:∃fuel,DataW.trod enc Tryz.prog W 0 (fun _=>true) true fuel 22 (Value.slice ao len cap).cells.toList=some (d,p)) (hlt:∀x∈p,x.block<W.heap.size) :
  ∃os:List G.Op,len=os.length/\os.length<=9223372036854775807/\OpsAt W (.slice ao len cap) os/\∀o,o∈os->o.fits:=by
 obtain⟨fuel,hf⟩:=h;have c8:Tryz.prog.cellsOf 65 = 8:=by kernel_rfl
 rcases Go.Deep.open_slice Tryz.underlying22 hf with⟨hcs,_⟩|⟨a,len',cap',m,n,D,Pl,hcs,_,hl,hm,hmm,hx,hel⟩
 ·simp[Value.cells]at hcs
  obtain⟨rfl,rfl,rfl⟩:=hcs;exact⟨[],rfl,by simp,⟨none,0,rfl,fun h=>by simp at h⟩,fun o ho=>by cases ho⟩
 ·simp[Value.cells]at hcs
  obtain⟨rfl,rfl,rfl⟩:=hcs;simp only[if_true]at hmm;have hmm2:=hmm.symm;subst hmm2;rw[c8]at hx hel;have each:∀i,i<cap->∃o:G.Op,o.fits/\∀k,k<8->W.cell? ((a.add (i*8)).add k)=(ocells o)[k]?:=by
   intro i hi;obtain⟨cs,h1,h2⟩:=hel i hi;obtain⟨_,_,h3⟩:=World.cells?_some h1;obtain⟨o,ho,h4⟩:=op_at h2;exact⟨o,ho,fun k hk=>(h3 k hk).trans (h4 k hk)⟩
  obtain⟨f,hfn⟩:=Go.Deep.choose_lt each;have hlen:((List.range len).map f).length=len:=by simp
  unfold maxLen at hm;refine⟨(List.range len).map f,hlen.symm,by rw[hlen];omega,⟨some a,cap,by rw[hlen],fun hpos=>?_⟩,fun o ho=>?_⟩
  ·rw[hlen]at hpos
   obtain⟨b,off,spot⟩:=a;have h0:=(hfn 0 (by omega)).2 0 (by omega);have hspot:spot=none:=by
    have h1:W.cell? (((⟨b,off,spot⟩:Addr).add (0*8)).add 0)=some (.int .u8 ((f 0).kind:Nat)):=h0;simpa[Addr.add]using World.cell?_spot h1
   subst hspot;have hbW:b<W.heap.size:=by
    simp only[Prod.mk.injEq]at hx;refine hlt (.cell b off) ?_;rw[hx.2];exact List.mem_append_left _ (MemPlace.mem_row.2 ⟨0,by omega,by simp⟩)
   refine⟨b,off,rfl,hbW,fun j hj k hk=>?_⟩;rw[hlen]at hj;have h1:=(hfn j (by omega)).2 k hk;rw[Go.Deep.add_add]at h1;rw[show((⟨b,off,none⟩:Addr).add (j*8+k))=⟨b,off+j*8+k,none⟩ by simp[Addr.add,Nat.add_assoc]]at h1;rw[h1];simp
  ·obtain⟨i,hi,rfl⟩:=List.mem_map.1 ho
   exact(hfn i (by have:=List.mem_range.1 hi;omega)).1
theorem okWide_arr{P:Program}{r:Reach}{base n:Nat}{t e:TypeId}{v:Value}(ht:P.underlying t=some (.array n e))(h:Value.okWide P W r base t v):∃cs,v=.agg cs/\cs.size=P.cellsOf t:=by
 simp only[Value.okWide,ht]at h;obtain⟨cs,h1,h2,_⟩:=h;exact⟨cs,h1,h2⟩
theorem spot_at{spare:Nat->Bool}{held:Bool}{n:Nat}{l:List Value}{i:Nat}{x:DataW H×List MemPlace}(h:DataW.trod enc Tryz.prog W 0 spare held n 24 ((l.drop i).take 2)=some x):∃a b:Nat,a<256/\b<256/\l[i]?=some (.int .u8 (a:Nat))/\l[i+1]?=some (.int .u8 (b:Nat)):=by
 obtain⟨xs,m,_,_,hcl,hxl,hf⟩:=DataW.trod_array Tryz.underlying24 h;have c1:Tryz.prog.cellsOf 5 = 1:=by kernel_rfl
 have g0:DataW.trod enc Tryz.prog W 0 spare held m 5 ((((l.drop i).take 2).drop (0 * Tryz.prog.cellsOf 5)).take (Tryz.prog.cellsOf 5))=xs[0]?:=hf 0 (by omega);have g1:DataW.trod enc Tryz.prog W 0 spare held m 5 ((((l.drop i).take 2).drop (1 * Tryz.prog.cellsOf 5)).take (Tryz.prog.cellsOf 5))=xs[1]?:=hf 1 (by omega);rw[c1,List.getElem?_eq_getElem (by omega)]at g0 g1;obtain⟨a,ha,ea⟩:=u8_at g0;obtain⟨b,hb,eb⟩:=u8_at g1;refine⟨a,b,ha,hb,?_,?_⟩
 ·rw[<-ea];simp[List.getElem?_take,List.getElem?_drop]
 ·rw[<-eb];simp[List.getElem?_take,List.getElem?_drop]
theorem toList_inj{a b:Array Value}(h:a.toList=b.toList):a=b:=by cases a;cases b;simp at h;rw[h]
end
end A
end
section
open Go.ChangeShapes Go.WideShapes Go.RowKit
namespace A
open H G R
section
variable {H:Type} {enc:TypeId×Value->H} {W:World}
theorem open_spots3{base:Nat}{v:Value}{d:DataW H}{p:List MemPlace}(hv:Value.okWide Tryz.prog W .any base 46 v)(h:DataW.Trod enc Tryz.prog W 0 (fun _=>true) true 46 v d p) :
  ∃p0 q0 p1 q1 p2 q2:Nat,(p0<256/\q0<256/\p1<256/\q1<256/\p2<256/\q2<256)/\v=.agg #[.int .u8 (p0:Nat),.int .u8 (q0:Nat),.int .u8 (p1:Nat),.int .u8 (q1:Nat),.int .u8 (p2:Nat),.int .u8 (q2:Nat)]:=by
 obtain⟨cs,rfl,hs⟩:=okWide_arr Tryz.underlying46 hv;have c2:Tryz.prog.cellsOf 46 = 6:=by kernel_rfl
 have c3:Tryz.prog.cellsOf 24 = 2:=by kernel_rfl
 rw[c2]at hs;obtain⟨fuel,hf⟩:=h;obtain⟨xs,m,_,_,hcl,hxl,hg⟩:=DataW.trod_array Tryz.underlying46 hf;have g0:DataW.trod enc Tryz.prog W 0 (fun _=>true) true m 24 ((cs.toList.drop (0 * Tryz.prog.cellsOf 24)).take (Tryz.prog.cellsOf 24))=xs[0]?:=hg 0 (by omega);rw[c3,List.getElem?_eq_getElem (by omega)]at g0;obtain⟨p0,q0,hp0,hq0,e0,e1⟩:=spot_at g0;have g1:DataW.trod enc Tryz.prog W 0 (fun _=>true) true m 24 ((cs.toList.drop (1 * Tryz.prog.cellsOf 24)).take (Tryz.prog.cellsOf 24))=xs[1]?:=hg 1 (by omega);rw[c3,List.getElem?_eq_getElem (by omega)]at g1;obtain⟨p1,q1,hp1,hq1,e2,e3⟩:=spot_at g1
 have g2:DataW.trod enc Tryz.prog W 0 (fun _=>true) true m 24 ((cs.toList.drop (2 * Tryz.prog.cellsOf 24)).take (Tryz.prog.cellsOf 24))=xs[2]?:=hg 2 (by omega);rw[c3,List.getElem?_eq_getElem (by omega)]at g2;obtain⟨p2,q2,hp2,hq2,e4,e5⟩:=spot_at g2;refine⟨p0,q0,p1,q1,p2,q2,⟨hp0,hq0,hp1,hq1,hp2,hq2⟩,?_⟩
 congr 1
 refine toList_inj ?_;refine List.ext_getElem? fun i=>?_
 match i with
 |0=>exact e0
 |1=>exact e1
 |2=>exact e2
 |3=>exact e3
 |4=>exact e4
 |5=>exact e5
 |i+6=>rw[List.getElem?_eq_none (by simp;omega),List.getElem?_eq_none (by simp)]
end
end A
end
section
open Go.RowKit Go.Sort
namespace G
def spotN(m:Model)(p:Nat):Nat:=p % m.length
def spotI(m:Model)(p q:Nat):Nat:=if has m (spotN m p)=true then q % (G.sizeOf m (spotN m p)+1)else q
end G
namespace A
open H G R
theorem blk_two{g:Nat}{t:TypeId}{w:World}{a b:Value}(h:Blk g #[a,b] t w)(c d:Value):Blk g #[c,d] t ((w.setCell ⟨g,0,none⟩ c).setCell ⟨g,1,none⟩ d):=by
 have h9:=(h.set 0 c).set 1 d;simp only[List.setIfInBounds_toArray,List.set_cons_zero,List.set_cons_succ]at h9;exact h9
def pointR(i k:Nat):Value:=.agg #[.int .i64 (i:Nat),.int .i64 (k:Nat)]
theorem point_(w0 w:World)(X:Tw)(p q:Nat)(h:TwIs w0 w X)(hm:X.M.m=X.m)(hW:Whole X.m)(hfw:X.m.length<=2000)(hp:p<256)(hq:q<256) :
  Calls Tryz.prog 12 #[.pointer (some ⟨X.tb,0,none⟩),.agg #[.int .u8 (p:Nat),.int .u8 (q:Nat)]] w fun e w'=>e=.returned (.tuple #[pointR (spotN X.m p) (spotI X.m p q),pointV (hv1 X.T X.pos X.m (spotN X.m p)) (spotI X.m p q:Nat)])/\Below w.heap.size w w':=by
 have hl:=h.pos_len;have n1:spotN X.m p<X.m.length:=Nat.mod_lt _ hl;have ek2:Int.tmod (p:Int) (X.m.length:Int)=(spotN X.m p:Int):=(Int.ofNat_tmod _ _).symm;have HI:Hid (spotI X.m p q=if has X.m (spotN X.m p)=true then q % (G.sizeOf X.m (spotN X.m p)+1)else q):=hi_ rfl;have QS:=hi_ (fun W (hM:ModelMem W X.M)=>mSize X.M (spotN X.m p) W hM (by rw[<-X.M.m_len,hm];exact n1) (by rw[hm];have:=(hW (spotN X.m p)).1;omega) (by rw[hm];exact(hW (spotN X.m p)).2));have QH:=hi_ (fun W (hM:ModelMem W X.M)=>mHas X.M (spotN X.m p) W hM);rw[hm]at QS QH;have hsz:G.sizeOf X.m (spotN X.m p)<=100000:=size_short h.tree.fits.wf hW (by omega) _;generalize spotI X.m p q=k at *;generalize spotN X.m p=a at *;generalize G.sizeOf X.m a=sz at *
 have hb1:=((((Below.refl w.heap.size w).alloc (Nat.le_refl _) (.cells #[.int .u8 (p:Nat),.int .u8 (q:Nat)] 24))).alloc (by simp) (.cells #[.int .i64 0,.int .i64 0] 30)).alloc (by simp;omega) (.cells #[.int .i64 0,.int .i64 0] 31);have HX1:=hi_ (((Blk.new w #[.int .u8 (p:Nat),.int .u8 (q:Nat)] 24).alloc (.cells #[.int .i64 0,.int .i64 0] 30)).alloc (.cells #[.int .i64 0,.int .i64 0] 31));have HX2:=hi_ ((Blk.new (w.alloc (.cells #[.int .u8 (p:Nat),.int .u8 (q:Nat)] 24)) #[.int .i64 0,.int .i64 0] 30).alloc (.cells #[.int .i64 0,.int .i64 0] 31))
 have HX3:=hi_ (Blk.new ((w.alloc (.cells #[.int .u8 (p:Nat),.int .u8 (q:Nat)] 24)).alloc (.cells #[.int .i64 0,.int .i64 0] 30)) #[.int .i64 0,.int .i64 0] 31);simp only[World.size_alloc]at HX2 HX3;have H1:=hi_ (h.below hb1);have HB1:=hi_ hb1;obtain⟨g,cap,hv,_,hcap,_⟩:=h.toMid.cells hl;have HSx:Hid (∀W,Below w.heap.size w W->W.cell? ⟨X.tb,2,none⟩=some (.slice (some ⟨g,0,none⟩) X.m.length cap)/\W.cell? ⟨g,a,none⟩=some (.int .i64 (hv1 X.T X.pos X.m a))):=hi_ (fun W hb=>by
  have h2:=h.below hb;obtain⟨_,_,c2,_⟩:=cells3 h2.blk;rw[hv]at c2;exact⟨c2,(h2.toMid.get hv n1).1⟩)
 have hz1:=h.toMid.get hv n1;have hgl:=hz1.2.2;have wp1:IntKind.i64.wrap (p:Int)=(p:Int):=IntWalk.i64_in _ (by omega);have wq1:IntKind.i64.wrap (q:Int)=(q:Int):=IntWalk.i64_in _ (by omega);have wq2:IntKind.i64.wrap (a:Int)=(a:Int):=IntWalk.i64_in _ (by omega);have hn0:¬(X.m.length:Int)=0:=by omega
 have hn00:((X.m.length:Int)==0)=false:=beq_eq_false_iff_ne.2 hn0;have hai:(a:Int)<(X.m.length:Int):=by omega
 have ha0:(0:Int)<=(a:Int):=by omega
 have ws:IntKind.i64.wrap ((sz:Int)+1)=(sz:Int)+1:=IntWalk.i64_in _ (by omega);have es:Int.tmod (q:Int) ((sz:Int)+1)=((q % (sz+1):Nat):Int):=(Int.ofNat_tmod q (sz+1)).symm;have hs0:¬((sz:Int)+1)=0:=by omega
 have hs00:(((sz:Int)+1)==0)=false:=beq_eq_false_iff_ne.2 hs0;have hk2:q % (sz+1)<=q:=Nat.mod_le _ _;have wk:IntKind.i64.wrap ((q % (sz+1):Nat):Int)=((q % (sz+1):Nat):Int):=IntWalk.i64_in _ (by omega);generalize q % (sz+1)=k2 at *;generalize has X.m a=ha at *;clear h hb1 hm hW hk2
 go_enter Tryz.func12,Tryz.ntmps12
 go_upto_region 1 with fail
 generalize ((w.alloc (.cells #[.int .u8 (p:Nat),.int .u8 (q:Nat)] 24)).alloc (.cells #[.int .i64 0,.int .i64 0] 30)).alloc (.cells #[.int .i64 0,.int .i64 0] 31)=w1 at *;obtain⟨c0,c1,c2,hlt⟩:=cells3 H1.out.blk;rw[hv]at c2;obtain⟨b0,b1⟩:=cells2 HX1.out;have hbl:=HX1.out.lt;have D0:=lc_ c2 hlt;have D1:=lc_ b0 hbl;refine wp_region_later (by kernel_rfl) (by kernel_rfl) ?_;repeat (go_big_quiet_step (fail))
 refine wq_ (fun dq=>?_);have HD2:=hi_ dq.h;clear D0 D1 c0 c1 c2 b0 b1 hlt hbl;generalize dq.w=w2 at *;have HB2:=bt_ HB1 HD2.out;have H2:=hi_ (H1.out.below HD2.out);have HY1:=hi_ (HX1.out.below HD2.out);have HY2:=hi_ (HX2.out.below HD2.out);have HY3:=hi_ (HX3.out.below HD2.out);clear HX1 HX2 HX3 H1 HB1 HD2 dq;obtain⟨c0,c1,c2,hlt⟩:=cells3 H2.out.blk;rw[hv]at c2;obtain⟨b0,b1⟩:=cells2 HY1.out;have hbl:=HY1.out.lt;have Q:=hi_ (QH.out w2 H2.out.model);try rw[ek2]
 try rw[wq2]
 go_wp2_with fail
 refine Q.out.mono ?_;rintro e w2' ⟨rfl,rfl⟩
 cases ha with
 |false=>
  have HI2:Hid (k=q):=hi_ (HI.out.trans (if_neg (by decide)));have HQ2:=HY2;have HQ3:=HY3;go_upto_region 5 with fail
  have HSW:=hi_ (HSx.out w2 HB2.out);refine wp_region_flow (fun W'=>W'.cell? ⟨X.tb,2,none⟩=some (.slice (some ⟨g,0,none⟩) X.m.length cap)/\W'.cell? ⟨g,a,none⟩=some (.int .i64 (hv1 X.T X.pos X.m a))) 13 [(0,false),(1,false),(2,false),(3,false),(4,false),(5,false),(6,false),(7,false),(8,false),(9,false),(10,false),(11,false),(12,true)] (by kernel_rfl) (by kernel_rfl) (HSx.out _ (HB2.out.drew)) ?_;iterate 12 (
   refine flow_get _ ?_ rfl (fun _ _ _ h=>h) (by rfl) ?_ ?_
   rotate_left
   focus (
    intro W' hS';obtain⟨s0,s1⟩:=hS';go_simp
    first|done|with_reducible rfl)
   simp only[Act.put,List.setIfInBounds_toArray,List.set_cons_zero,List.set_cons_succ])
  change wpFlow _ _ _ _ _ _ _ (World.drew w2);obtain⟨wd,hwd⟩:∃wd,wd=World.drew w2:=⟨_,rfl⟩;have HBd:Hid (Below w.heap.size w wd):=hi_ (by rw[hwd];exact HB2.out.drew);have HYd2:Hid (Blk (w.heap.size+1) #[.int .i64 0,.int .i64 0] 30 wd):=hi_ (by rw[hwd];exact HQ2.out);have HYd3:Hid (Blk (w.heap.size+1+1) #[.int .i64 0,.int .i64 0] 31 wd):=hi_ (by rw[hwd];exact HQ3.out);rw[<-hwd];clear hwd;obtain⟨_,hfa⟩:=cells_of HYd2.out;obtain⟨_,hfb⟩:=cells_of HYd3.out;have fa0:wd.frozen? ⟨w.heap.size+1,0,none⟩=false:=hfa 0 (by show 0<2;omega);have fa1:wd.frozen? ⟨w.heap.size+1,1,none⟩=false:=hfa 1 (by show 1<2;omega);have fb0:wd.frozen? ⟨w.heap.size+1+1,0,none⟩=false:=hfb 0 (by show 0<2;omega)
  have fb1:wd.frozen? ⟨w.heap.size+1+1,1,none⟩=false:=hfb 1 (by show 1<2;omega);have hla:=HYd2.out.lt;have hlb:=HYd3.out.lt;clear hfa hfb;have HW1:=hi_ (((HBd.out).setCell (p:=⟨w.heap.size+1,0,none⟩) (by show w.heap.size<=w.heap.size+1;omega) (.int .i64 (a:Nat))).setCell (p:=⟨w.heap.size+1,1,none⟩) (by show w.heap.size<=w.heap.size+1;omega) (.int .i64 (q:Nat)));have HW2:=hi_ (((HW1.out).setCell (p:=⟨w.heap.size+1+1,0,none⟩) (by show w.heap.size<=w.heap.size+1+1;omega) (.int .i64 (hv1 X.T X.pos X.m a))).setCell (p:=⟨w.heap.size+1+1,1,none⟩) (by show w.heap.size<=w.heap.size+1+1;omega) (.int .i64 (q:Nat)))
  have HV1:=hi_ ((blk_two HYd2.out (.int .i64 (a:Nat)) (.int .i64 (q:Nat))).far (k:=w.heap.size+1+1) (by omega) 0 (.int .i64 (hv1 X.T X.pos X.m a)) |>.far (k:=w.heap.size+1+1) (by omega) 1 (.int .i64 (q:Nat)));have HV2:=hi_ (blk_two (((HYd3.out).far (k:=w.heap.size+1) (by omega) 0 (.int .i64 (a:Nat))).far (k:=w.heap.size+1) (by omega) 1 (.int .i64 (q:Nat))) (.int .i64 (hv1 X.T X.pos X.m a)) (.int .i64 (q:Nat)));refine flow_do _ rfl (fun K hK=>?_);go_simp
  refine hK _ _ (HSx.out _ HW1.out) ?_;clear hK K;show wpList _ _ _ _ _ _;simp only[List.drop_succ_cons,List.drop_zero];go_wp2_with fail
  generalize ((((wd.setCell ⟨w.heap.size+1,0,none⟩ (.int .i64 (a:Nat))).setCell ⟨w.heap.size+1,1,none⟩ (.int .i64 (q:Nat))).setCell ⟨w.heap.size+1+1,0,none⟩ (.int .i64 (hv1 X.T X.pos X.m a))).setCell ⟨w.heap.size+1+1,1,none⟩ (.int .i64 (q:Nat)))=WR at *;obtain⟨r0,r1⟩:=cells2 HV1.out;obtain⟨r2,r3⟩:=cells2 HV2.out
  (try simp only[Exit.inBlock,Exit.then])
  refine bodyPost_ret (v:=.tuple #[.agg #[.int .i64 (a:Nat),.int .i64 (q:Nat)],.agg #[.int .i64 (hv1 X.T X.pos X.m a),.int .i64 (q:Nat)]]) (by simp[results,Tryz.results12,go_sem,r0,r1,r2,r3]) rfl ⟨by rw[HI2.out];rfl,HW2.out⟩
 |true=>
  have HI2:Hid (k=k2):=hi_ (HI.out.trans (if_pos rfl));have QSz:=hi_ (QS.out w2 H2.out.model);go_wp2_with fail
  refine QSz.out.mono ?_;rintro e w3 ⟨rfl,hb3⟩;have HB3:=bt_ HB2 hb3;have HQ2:=hi_ (HY2.out.below hb3);have HQ3:=hi_ (HY3.out.below hb3);clear hb3 QSz;go_upto_region 5 with fail
  try rw[es]
  try rw[wk]
  have HSW:=hi_ (HSx.out w3 HB3.out);refine wp_region_flow (fun W'=>W'.cell? ⟨X.tb,2,none⟩=some (.slice (some ⟨g,0,none⟩) X.m.length cap)/\W'.cell? ⟨g,a,none⟩=some (.int .i64 (hv1 X.T X.pos X.m a))) 13 [(0,false),(1,false),(2,false),(3,false),(4,false),(5,false),(6,false),(7,false),(8,false),(9,false),(10,false),(11,false),(12,true)] (by kernel_rfl) (by kernel_rfl) (HSx.out _ (HB3.out.drew)) ?_;iterate 12 (
   refine flow_get _ ?_ rfl (fun _ _ _ h=>h) (by rfl) ?_ ?_
   rotate_left
   focus (
    intro W' hS';obtain⟨s0,s1⟩:=hS';go_simp
    first|done|with_reducible rfl)
   simp only[Act.put,List.setIfInBounds_toArray,List.set_cons_zero,List.set_cons_succ])
  change wpFlow _ _ _ _ _ _ _ (World.drew w3);obtain⟨wd,hwd⟩:∃wd,wd=World.drew w3:=⟨_,rfl⟩;have HBd:Hid (Below w.heap.size w wd):=hi_ (by rw[hwd];exact HB3.out.drew);have HYd2:Hid (Blk (w.heap.size+1) #[.int .i64 0,.int .i64 0] 30 wd):=hi_ (by rw[hwd];exact HQ2.out);have HYd3:Hid (Blk (w.heap.size+1+1) #[.int .i64 0,.int .i64 0] 31 wd):=hi_ (by rw[hwd];exact HQ3.out);rw[<-hwd];clear hwd;obtain⟨_,hfa⟩:=cells_of HYd2.out;obtain⟨_,hfb⟩:=cells_of HYd3.out;have fa0:wd.frozen? ⟨w.heap.size+1,0,none⟩=false:=hfa 0 (by show 0<2;omega);have fa1:wd.frozen? ⟨w.heap.size+1,1,none⟩=false:=hfa 1 (by show 1<2;omega);have fb0:wd.frozen? ⟨w.heap.size+1+1,0,none⟩=false:=hfb 0 (by show 0<2;omega)
  have fb1:wd.frozen? ⟨w.heap.size+1+1,1,none⟩=false:=hfb 1 (by show 1<2;omega);have hla:=HYd2.out.lt;have hlb:=HYd3.out.lt;clear hfa hfb;have HW1:=hi_ (((HBd.out).setCell (p:=⟨w.heap.size+1,0,none⟩) (by show w.heap.size<=w.heap.size+1;omega) (.int .i64 (a:Nat))).setCell (p:=⟨w.heap.size+1,1,none⟩) (by show w.heap.size<=w.heap.size+1;omega) (.int .i64 (k2:Nat)));have HW2:=hi_ (((HW1.out).setCell (p:=⟨w.heap.size+1+1,0,none⟩) (by show w.heap.size<=w.heap.size+1+1;omega) (.int .i64 (hv1 X.T X.pos X.m a))).setCell (p:=⟨w.heap.size+1+1,1,none⟩) (by show w.heap.size<=w.heap.size+1+1;omega) (.int .i64 (k2:Nat)))
  have HV1:=hi_ ((blk_two HYd2.out (.int .i64 (a:Nat)) (.int .i64 (k2:Nat))).far (k:=w.heap.size+1+1) (by omega) 0 (.int .i64 (hv1 X.T X.pos X.m a)) |>.far (k:=w.heap.size+1+1) (by omega) 1 (.int .i64 (k2:Nat)));have HV2:=hi_ (blk_two (((HYd3.out).far (k:=w.heap.size+1) (by omega) 0 (.int .i64 (a:Nat))).far (k:=w.heap.size+1) (by omega) 1 (.int .i64 (k2:Nat))) (.int .i64 (hv1 X.T X.pos X.m a)) (.int .i64 (k2:Nat)));refine flow_do _ rfl (fun K hK=>?_);go_simp
  refine hK _ _ (HSx.out _ HW1.out) ?_;clear hK K;show wpList _ _ _ _ _ _;simp only[List.drop_succ_cons,List.drop_zero];go_wp2_with fail
  generalize ((((wd.setCell ⟨w.heap.size+1,0,none⟩ (.int .i64 (a:Nat))).setCell ⟨w.heap.size+1,1,none⟩ (.int .i64 (k2:Nat))).setCell ⟨w.heap.size+1+1,0,none⟩ (.int .i64 (hv1 X.T X.pos X.m a))).setCell ⟨w.heap.size+1+1,1,none⟩ (.int .i64 (k2:Nat)))=WR at *;obtain⟨r0,r1⟩:=cells2 HV1.out;obtain⟨r2,r3⟩:=cells2 HV2.out
  (try simp only[Exit.inBlock,Exit.then])
  refine bodyPost_ret (v:=.tuple #[.agg #[.int .i64 (a:Nat),.int .i64 (k2:Nat)],.agg #[.int .i64 (hv1 X.T X.pos X.m a),.int .i64 (k2:Nat)]]) (by simp[results,Tryz.results12,go_sem,r0,r1,r2,r3]) rfl ⟨by rw[HI2.out];rfl,HW2.out⟩
end A
end
section
open Go.RowKit Go.Sort
namespace A
open H G R
structure Good(X:Tw):Prop where
 mm:X.M.m=X.m
 whole:Whole X.m
 attrs:∀i,(nd X.m i).attrs.length<=62
 ok:AllN (OkBod 60) X.m
 len:X.m.length<=300
theorem OkBod.up{k:Nat}{x:List (List UInt8×List UInt8)×List UInt8}(h:OkBod k x):∀d,OkBod (k+d) x
 |0=>h
 |d+1=>(OkBod.up h d).more
theorem start_(os:List G.Op)(v:Value)(w:World)(h:OpsAt w v os)(hfew:few os=true)(hf:∀o,o∈os->o.fits)(ht:UTabs w) :
  Calls Tryz.prog 11 #[v] w fun e w'=>∃X,e=.returned (.pointer (some ⟨X.tb,0,none⟩))/\TwIs w w' X/\Good X:=by
 refine(start11 os v w h hfew hf ht).mono ?_;rintro e w' ⟨X,rfl,hX,hm,_,⟨i,hi,ha⟩,hl,_,_⟩;have ha60:AllN (OkBod 60) X.m:=fun j=>by
  have h1:=OkBod.up (ha j) (60-i)
  rwa [show i+(60-i)=60 by omega]at h1
 refine⟨X,rfl,hX,hm,fun j=>⟨?_,(ha60 j).2.1⟩,fun j=>(ha60 j).1,ha60,hl⟩;have h1:(nd X.m j).data.length<=120*(60+1):=(ha60 j).2.2;omega
theorem Good.small{X:Tw}(h:Good X):Small X.m:=small_of h.whole (fun i=>by have:=h.attrs i;omega)
def SMem.zero(sb:Nat):SMem:=⟨sb,.slice none 0 0,[],.slice none 0 0,[],0,sb⟩
theorem SetMem.new(w:World):SetMem (w.alloc (.cells #[.slice none 0 0,.slice none 0 0,.int .i64 0] 50)) (SMem.zero w.heap.size):=
 ⟨Blk.new w _ _,World.ownsRow_nil _ _ _ _,World.ownsRow_nil _ _ _ _,⟨Nat.zero_le _,Nat.zero_le _⟩,⟨Int.le_refl _,by show(0:Int)<=10000;omega⟩,Nat.le_refl _⟩
theorem SMem.zero_foot{sb k:Nat}(h:(SMem.zero sb).foot k):sb<=k:=by
 rcases h with e|e|e
 ·exact Nat.le_of_eq e.symm
 ·cases e
 ·cases e
theorem doc_whole:Whole [docNode]:=fun i=>by
 cases i with
 |zero=>exact⟨by show([]:List UInt8).length<=_;simp,rfl⟩
 |succ i=>exact⟨by show([]:List UInt8).length<=_;simp,rfl⟩
theorem doc_attrs:∀i,(nd [docNode] i).attrs.length<=100000:=fun i=>by
 cases i with
 |zero=>exact Nat.zero_le _
 |succ i=>exact Nat.zero_le _
theorem awake9(w:World):Calls Tryz.prog 9 #[] w fun e w'=>e=.returned (.bool true)/\Below w.heap.size w w':=by
 have QN:=hi_ (fun W=>new2_ 0 0 W)
 go_enter Tryz.func9,Tryz.ntmps9
 go_wp2_with fail
 refine(QN.out _).mono ?_;rintro e w1 ⟨T,rfl,hb1,hT1,_⟩;have HB1:=hi_ hb1;have HT1:=hi_ hT1;have hda:=(Below.refl w1.heap.size w1).alloc (Nat.le_refl _) (.cells #[.slice none 0 0,.slice none 0 0,.int .i64 0] 50);have HDa:=hi_ hda;have HS0:=hi_ (SetMem.new w1);have HT2:=hi_ (hT1.below hda);have hblk:=HT2.out.mem.blk;unfold tcells at hblk;obtain⟨hc,hf⟩:=cells_of hblk;have c5:=hc 5;have htl:=hblk.lt;have hroot:T.root=hd T (fun _=>0) 0:=hT1.fits.root;have hz:PtIs T [docNode] (fun _=>0) T.root 0 0:=Or.inl ⟨0,rfl,hroot,rfl⟩;have QCr:=hi_ (create_ok T [docNode] (fun _=>0) (SMem.zero w1.heap.size) T.root 0 _ HT2.out HS0.out (small_of doc_whole doc_attrs) hz (by show 0<10000;omega) (by show(0:Int)<10000;omega));have HRt:=hi_ hroot
 have c5':(w1.alloc (.cells #[.slice none 0 0,.slice none 0 0,.int .i64 0] 50)).cell? ⟨T.tb,5,none⟩=some (.int .i64 T.root):=c5;unfold pointV at QCr;clear hda hblk hc hf c5 hb1 hT1 QN hroot hz;go_wp2_with fail
 refine QCr.out.mono ?_;rintro e w3 ⟨v,rfl,hf3,hs3,hv3⟩;have HD3:=hi_ (HDa.out.trans (hf3.below (B:=w1.heap.size) (fun k hk=>SMem.zero_foot hk) HDa.out.size));have HT3:=hi_ (HT1.out.below HD3.out);have HOk:Hid (SetOk T [docNode] (fun _=>0) { SMem.zero w1.heap.size with rv:=v,rs:=[]++[⟨0+1,T.root,0,T.root,0⟩],last:=0+1 }):=hi_
  ⟨(fun r hr => by
    obtain rfl:r=⟨0+1,T.root,0,T.root,0⟩:=by simpa using hr
    exact⟨(0,0),(0,0),⟨HRt.out,rfl,HRt.out,rfl⟩,⟨rfl,rfl⟩,⟨Nat.zero_le _,Nat.zero_le _⟩,rfl,by decide⟩),
   (fun x hx=>by cases hx),(fun i hi=>by
    obtain rfl:i=0:=by simpa using hi
    show(0:Int)<0+1
    omega),(fun i hi=>by cases hi),(fun r hr=>by
    obtain rfl:r=⟨0+1,T.root,0,T.root,0⟩:=by simpa using hr
    exact Int.le_refl _),(fun x hx=>by cases hx)⟩
 have QV:=hi_ (valid_ T [docNode] (fun _=>0) _ w3 HT3.out hs3 doc_whole doc_attrs (by show 1<=2000;omega) HOk.out);have e1:(SMem.zero w1.heap.size).last+1=1:=rfl;rw[e1];clear hf3 hs3 hv3 QCr c5';go_wp2_with fail
 refine QV.out.mono ?_;rintro e w4 ⟨rfl,hb4⟩;have HB4:=hi_ ((HB1.out.trans (HD3.out.mono HB1.out.size)).trans (hb4.mono (Nat.le_trans HB1.out.size HD3.out.size)));clear hb4 QV;go_wp2_with fail
 go_ret
 exact⟨rfl,HB4.out⟩
def SMem.one(sb:Nat)(ao:Option Addr)(cap:Nat)(r:Rg):SMem:=⟨sb,.slice ao 1 cap,[r],.slice none 0 0,[],1,sb⟩
theorem find_one(r:Rg)(h:r.id=1):findR [r] 1=some 0:=findR_of (by simp) h (fun j hj=>by omega)
theorem find_seven(r:Rg)(h:r.id=1):findR [r] 7=none:=findR_none (fun j hj=>by
 obtain rfl:j=0:=by simpa using hj
 show r.id≠7
 omega)
theorem create_one(T:TMem)(m:Model)(pos:Nat->Nat)(sb:Nat)(z k:Int)(w:World)(hT:TreeIs w T m pos)(hS:SetMem w (SMem.zero sb))(hm:Small m)(hp:PtIs T m pos z k 0) :
  Calls Tryz.prog 17 #[.pointer (some ⟨sb,0,none⟩),.pointer (some ⟨T.tb,0,none⟩),pointV z k] w fun e w'=>∃ao cap,e=.returned (.tuple #[.int .i64 1,.int .i64 0])/\H.Frame (SMem.zero sb).foot w w'/\SetMem w' (SMem.one sb ao cap ⟨1,z,k,z,k⟩)/\∀r b,(SMem.one sb ao cap r).foot b->sb<=b:=by
 refine(create_ok T m pos (SMem.zero sb) z k w hT hS hm hp (by show 0<10000;omega) (by show(0:Int)<10000;omega)).mono ?_;rintro e w' ⟨v,rfl,hf,hs,hv⟩;obtain⟨ao,cap,hv2⟩:=RecRow.slice hs.rows;have hv2:v=.slice ao 1 cap:=hv2;subst hv2;refine⟨ao,cap,rfl,hf,hs,fun r b hb=>?_⟩;have hlt:=hS.blk.lt
 rcases hb with e|e|e
 ·exact Nat.le_of_eq e.symm
 ·rcases hv b e with e|e
  ·cases e
  ·have hlt:sb<w.heap.size:=hlt
   omega
 ·cases e
theorem range_one(sb:Nat)(ao:Option Addr)(cap:Nat)(r:Rg)(w:World)(hS:SetMem w (SMem.one sb ao cap r))(hr:r.id=1) :
  Calls Tryz.prog 20 #[.pointer (some ⟨sb,0,none⟩),.int .i64 1] w fun e w'=>e=.returned (.tuple #[rgV r,.int .i64 0])/\Below w.heap.size w w':=
 range_ (SMem.one sb ao cap r) 1 0 w hS (find_one r hr) (by show 0<1;omega)
theorem valid_one(T:TMem)(m:Model)(pos:Nat->Nat)(sb:Nat)(ao:Option Addr)(cap:Nat)(r:Rg)(w:World)(hT:TreeIs w T m pos)(hS:SetMem w (SMem.one sb ao cap r))(hD:Whole m)(hA:∀i,(nd m i).attrs.length<=100000)(hl:m.length<=2000)(hr:r.id=1)(hok:RgOk T m pos r) :
  Calls Tryz.prog 21 #[.pointer (some ⟨sb,0,none⟩),.pointer (some ⟨T.tb,0,none⟩)] w fun e w'=>e=.returned (.bool true)/\Below w.heap.size w w':=
 valid_ T m pos (SMem.one sb ao cap r) w hT hS hD hA hl
  ⟨(fun x hx => by
    obtain rfl:x=r:=by simpa[SMem.one]using hx
    exact hok),(fun x hx=>by cases hx),(fun i hi=>by
    obtain rfl:i=0:=by simpa[SMem.one]using hi
    show(0:Int)<r.id
    omega),(fun i hi=>by cases hi),(fun x hx=>by
    obtain rfl:x=r:=by simpa[SMem.one]using hx
    show x.id<=1
    omega),(fun x hx=>by cases hx)⟩
theorem setStart_one(T:TMem)(m:Model)(pos:Nat->Nat)(sb:Nat)(ao:Option Addr)(cap:Nat)(r:Rg)(a b:Nat×Nat)(w:World)(hT:TreeIs w T m pos)(hS:SetMem w (SMem.one sb ao cap r))(hm:Small m)(hr:r.id=1)
  (ha:has m a.1=true) (ka:a.2<=G.sizeOf m a.1) (kA:a.2<=1000000) (hb:has m b.1=true) (kb:b.2<=G.sizeOf m b.1) (kB:b.2<=1000000) (hbz:r.en=hd T pos b.1) (hbk:r.ei=(b.2:Nat)) :
  Calls Tryz.prog 18 #[.pointer (some ⟨sb,0,none⟩),.pointer (some ⟨T.tb,0,none⟩),.int .i64 1,pointV (hd T pos a.1) (a.2:Nat)] w fun e w'=>e=.returned (.int .i64 0)/\H.Frame (SMem.one sb ao cap r).foot w w' ∧
   SetMem w' (SMem.one sb ao cap (movedStart m a b (hd T pos a.1) (a.2:Nat) r)):=
 setStart_ok T m pos (SMem.one sb ao cap r) 1 0 a b w hT hS hm (find_one r hr) (by show 0<1;omega) ha ka kA hb kb kB hbz hbk
theorem setStart_one_bad(T:TMem)(m:Model)(pos:Nat->Nat)(sb:Nat)(ao:Option Addr)(cap:Nat)(r:Rg)(z k o:Int)(w:World)(hT:TreeIs w T m pos)(hS:SetMem w (SMem.one sb ao cap r))(hm:Small m)(hr:r.id=1)(hp:PtIs T m pos z k o)(ho:o≠0) :
  Calls Tryz.prog 18 #[.pointer (some ⟨sb,0,none⟩),.pointer (some ⟨T.tb,0,none⟩),.int .i64 1,pointV z k] w fun e w'=>e=.returned (.int .i64 o)/\Below w.heap.size w w':=
 setStart_bad T m pos (SMem.one sb ao cap r) 1 z k o 0 w hT hS hm (find_one r hr) hp ho
theorem setEnd_one(T:TMem)(m:Model)(pos:Nat->Nat)(sb:Nat)(ao:Option Addr)(cap:Nat)(r:Rg)(a b:Nat×Nat)(w:World)(hT:TreeIs w T m pos)(hS:SetMem w (SMem.one sb ao cap r))(hm:Small m)(hr:r.id=1)
  (ha:has m a.1=true) (ka:a.2<=G.sizeOf m a.1) (kA:a.2<=1000000) (hb:has m b.1=true) (kb:b.2<=G.sizeOf m b.1) (kB:b.2<=1000000) (hbz:r.sn=hd T pos b.1) (hbk:r.si=(b.2:Nat)) :
  Calls Tryz.prog 19 #[.pointer (some ⟨sb,0,none⟩),.pointer (some ⟨T.tb,0,none⟩),.int .i64 1,pointV (hd T pos a.1) (a.2:Nat)] w fun e w'=>e=.returned (.int .i64 0)/\H.Frame (SMem.one sb ao cap r).foot w w' ∧
   SetMem w' (SMem.one sb ao cap (movedEnd m a b (hd T pos a.1) (a.2:Nat) r)):=
 setEnd_ok T m pos (SMem.one sb ao cap r) 1 0 a b w hT hS hm (find_one r hr) (by show 0<1;omega) ha ka kA hb kb kB hbz hbk
theorem setEnd_one_bad(T:TMem)(m:Model)(pos:Nat->Nat)(sb:Nat)(ao:Option Addr)(cap:Nat)(r:Rg)(z k o:Int)(w:World)(hT:TreeIs w T m pos)(hS:SetMem w (SMem.one sb ao cap r))(hm:Small m)(hr:r.id=1)(hp:PtIs T m pos z k o)(ho:o≠0) :
  Calls Tryz.prog 19 #[.pointer (some ⟨sb,0,none⟩),.pointer (some ⟨T.tb,0,none⟩),.int .i64 1,pointV z k] w fun e w'=>e=.returned (.int .i64 o)/\Below w.heap.size w w':=
 setEnd_bad T m pos (SMem.one sb ao cap r) 1 z k o 0 w hT hS hm (find_one r hr) hp ho
theorem spotN_lt{m:Model}(W:WF m)(p:Nat):spotN m p<m.length:=Nat.mod_lt _ W.doc.1
theorem spot_ok{m:Model}{p q:Nat}(h:has m (spotN m p)=true):spotI m p q<=G.sizeOf m (spotN m p):=by
 unfold spotI;rw[if_pos h];have:=Nat.mod_lt q (show 0<G.sizeOf m (spotN m p)+1 by omega);omega
theorem spot_pt{X:Tw}{w0 w:World}(h:TwIs w0 w X)(p q:Nat):PtIs X.T X.m X.pos (hv1 X.T X.pos X.m (spotN X.m p)) (spotI X.m p q:Nat) (if has X.m (spotN X.m p)=true then 0 else 6):=by
 by_cases hh:has X.m (spotN X.m p)=true
 ·rw[if_pos hh,hv1_of hh]
  exact Or.inl ⟨_,hh,rfl,by rw[if_pos (okPt_of (spot_ok hh))]⟩
 ·have hh2:has X.m (spotN X.m p)=false:=by simpa using hh
  rw[if_neg hh,hv1_gone hh2];exact Or.inr ⟨ptr_gone h.tree.fits 0,rfl,by omega,by omega⟩
theorem later2{w:World}{g:Nat}{t:TypeId}{a b:Value}(h:Blk g #[a,b] t w):w.cell? ⟨g,0,none⟩=some a/\w.cell? ⟨g,1,none⟩=some b/\(∀d:Later w.heap.size w,d.w.cell? ⟨g,0,none⟩=some a)/\∀d:Later w.heap.size w,d.w.cell? ⟨g,1,none⟩=some b:=
 ⟨(cells_of h).1 0,(cells_of h).1 1,fun d=>Later.cell ((cells_of h).1 0) h.lt d,fun d=>Later.cell ((cells_of h).1 1) h.lt d⟩
theorem two_pts(w:World)(i k:Nat)(z:Int):Below w.heap.size w ((w.alloc (.cells #[.int .i64 (i:Nat),.int .i64 (k:Nat)] 30)).alloc (.cells #[.int .i64 z,.int .i64 (k:Nat)] 31)) ∧
  Blk w.heap.size #[.int .i64 (i:Nat),.int .i64 (k:Nat)] 30 ((w.alloc (.cells #[.int .i64 (i:Nat),.int .i64 (k:Nat)] 30)).alloc (.cells #[.int .i64 z,.int .i64 (k:Nat)] 31)) ∧
  Blk (w.heap.size+1) #[.int .i64 z,.int .i64 (k:Nat)] 31 ((w.alloc (.cells #[.int .i64 (i:Nat),.int .i64 (k:Nat)] 30)).alloc (.cells #[.int .i64 z,.int .i64 (k:Nat)] 31)):=by
 refine⟨((Below.refl w.heap.size w).alloc (Nat.le_refl _) _).alloc (by simp) _,(Blk.new w _ _).alloc _,?_⟩;have h:=Blk.new (w.alloc (.cells #[.int .i64 (i:Nat),.int .i64 (k:Nat)] 30)) #[.int .i64 z,.int .i64 (k:Nat)] 31;simpa using h
end A
end
section
open Go.RowKit Go.Sort
namespace A
open H G R
theorem lcmp_three{m:Model}(W:WF m){a b:Nat×Nat}(ht:top m a.1=top m b.1):lcmp m a b=-1\/lcmp m a b=0\/lcmp m a b=1:=lcmp_cases W ht
theorem hd_or{T:TMem}{m:Model}{pos:Nat->Nat}(F:Fits T m pos){a b i j:Nat}(ha:has m a=true)(hb:has m b=true)(h:(b,j)≠(a,i)):hd T pos a≠hd T pos b\/(i:Int)≠(j:Int):=by
 by_cases e:hd T pos a=hd T pos b
 ·right
  have e2:=hd_inj F ha hb e;intro e3;exact h (by rw[e2,show j=i by omega])
 ·exact Or.inl e
section
variable {T:TMem} {m:Model} {pos:Nat->Nat} {a b i j:Nat}
theorem end_far(ht:top m b≠top m a):movedEnd m (b,j) (a,i) (hd T pos b) (j:Nat) ⟨1,hd T pos a,(i:Nat),hd T pos a,(i:Nat)⟩=⟨1,hd T pos b,(j:Nat),hd T pos b,(j:Nat)⟩:=by
 unfold movedEnd cmpRes;rw[if_pos (show top m (b,j).1≠top m (a,i).1 from ht),if_pos (Or.inl (by decide))]
theorem start_far(ht:top m b≠top m a):movedStart m (b,j) (a,i) (hd T pos b) (j:Nat) ⟨1,hd T pos a,(i:Nat),hd T pos a,(i:Nat)⟩=⟨1,hd T pos b,(j:Nat),hd T pos b,(j:Nat)⟩:=by
 unfold movedStart cmpRes;rw[if_pos (show top m (b,j).1≠top m (a,i).1 from ht),if_pos (Or.inl (by decide))]
theorem end_near(F:Fits T m pos)(ha:has m a=true)(hb:has m b=true)(ka:i<=G.sizeOf m a)(kb:j<=G.sizeOf m b)(ht:top m b=top m a) :
  (lcmp m (b,j) (a,i)=-1/\movedEnd m (b,j) (a,i) (hd T pos b) (j:Nat) ⟨1,hd T pos a,(i:Nat),hd T pos a,(i:Nat)⟩=⟨1,hd T pos b,(j:Nat),hd T pos b,(j:Nat)⟩) ∨
  (lcmp m (b,j) (a,i)=0/\b=a/\j=i/\movedEnd m (b,j) (a,i) (hd T pos b) (j:Nat) ⟨1,hd T pos a,(i:Nat),hd T pos a,(i:Nat)⟩=⟨1,hd T pos a,(i:Nat),hd T pos a,(i:Nat)⟩) ∨
  (lcmp m (b,j) (a,i)=1/\(hd T pos a≠hd T pos b\/(i:Int)≠(j:Int))/\movedEnd m (b,j) (a,i) (hd T pos b) (j:Nat) ⟨1,hd T pos a,(i:Nat),hd T pos a,(i:Nat)⟩=⟨1,hd T pos a,(i:Nat),hd T pos b,(j:Nat)⟩):=by
 have hc:cmpRes m (b,j) (a,i)=(lcmp m (b,j) (a,i),0):=if_neg (fun h=>h ht);have hPb:PtOk m (b,j):=⟨has_lt hb,kb⟩;have hPa:PtOk m (a,i):=⟨has_lt ha,ka⟩
 rcases lcmp_three F.wf (a:=(b,j)) (b:=(a,i)) ht with h|h|h
 ·left
  refine⟨h,?_⟩;unfold movedEnd;rw[hc,h,if_pos (Or.inr rfl)]
 ·right;left
  have e:=refCmp_zero F.wf hPb hPa ht h;injection e with e1 e2
  refine⟨h,e1,e2,?_⟩;unfold movedEnd;rw[hc,h,if_neg (by decide)];unfold putEnd;rw[e1,e2]
 ·right;right
  refine⟨h,hd_or F ha hb (fun e=>?_),?_⟩
  ·rw[e,lcmp_self]at h;cases h
  ·unfold movedEnd
   rw[hc,h,if_neg (by decide)];rfl
theorem start_near(F:Fits T m pos)(ha:has m a=true)(hb:has m b=true)(ka:i<=G.sizeOf m a)(kb:j<=G.sizeOf m b)(ht:top m b=top m a) :
  (lcmp m (b,j) (a,i)=1/\movedStart m (b,j) (a,i) (hd T pos b) (j:Nat) ⟨1,hd T pos a,(i:Nat),hd T pos a,(i:Nat)⟩=⟨1,hd T pos b,(j:Nat),hd T pos b,(j:Nat)⟩) ∨
  (lcmp m (b,j) (a,i)=0/\b=a/\j=i/\movedStart m (b,j) (a,i) (hd T pos b) (j:Nat) ⟨1,hd T pos a,(i:Nat),hd T pos a,(i:Nat)⟩=⟨1,hd T pos a,(i:Nat),hd T pos a,(i:Nat)⟩) ∨
  (lcmp m (b,j) (a,i)=-1/\(hd T pos a≠hd T pos b\/(i:Int)≠(j:Int))/\movedStart m (b,j) (a,i) (hd T pos b) (j:Nat) ⟨1,hd T pos a,(i:Nat),hd T pos a,(i:Nat)⟩=⟨1,hd T pos b,(j:Nat),hd T pos a,(i:Nat)⟩):=by
 have hc:cmpRes m (b,j) (a,i)=(lcmp m (b,j) (a,i),0):=if_neg (fun h=>h ht);have hPb:PtOk m (b,j):=⟨has_lt hb,kb⟩;have hPa:PtOk m (a,i):=⟨has_lt ha,ka⟩
 rcases lcmp_three F.wf (a:=(b,j)) (b:=(a,i)) ht with h|h|h
 ·right;right
  refine⟨h,hd_or F ha hb (fun e=>?_),?_⟩
  ·rw[e,lcmp_self]at h;cases h
  ·unfold movedStart
   rw[hc,h,if_neg (by decide)];rfl
 ·right;left
  have e:=refCmp_zero F.wf hPb hPa ht h;injection e with e1 e2
  refine⟨h,e1,e2,?_⟩;unfold movedStart;rw[hc,h,if_neg (by decide)];unfold putStart;rw[e1,e2]
 ·left
  refine⟨h,?_⟩;unfold movedStart;rw[hc,h,if_pos (Or.inr rfl)]
theorem rg_same(ha:has m a=true)(ka:i<=G.sizeOf m a):RgOk T m pos ⟨1,hd T pos a,(i:Nat),hd T pos a,(i:Nat)⟩:=⟨(a,i),(a,i),⟨rfl,rfl,rfl,rfl⟩,⟨ha,ha⟩,⟨ka,ka⟩,rfl,by rw[lcmp_self];omega⟩
theorem rg_two(ha:has m a=true)(hb:has m b=true)(ka:i<=G.sizeOf m a)(kb:j<=G.sizeOf m b)(ht:top m a=top m b)(hc:lcmp m (a,i) (b,j)<=0):RgOk T m pos ⟨1,hd T pos a,(i:Nat),hd T pos b,(j:Nat)⟩:=⟨(a,i),(b,j),⟨rfl,rfl,rfl,rfl⟩,⟨ha,hb⟩,⟨ka,kb⟩,ht,hc⟩
theorem end_ok(F:Fits T m pos)(ha:has m a=true)(hb:has m b=true)(ka:i<=G.sizeOf m a)(kb:j<=G.sizeOf m b):RgOk T m pos (movedEnd m (b,j) (a,i) (hd T pos b) (j:Nat) ⟨1,hd T pos a,(i:Nat),hd T pos a,(i:Nat)⟩):=by
 by_cases ht:top m b=top m a
 ·rcases end_near F ha hb ka kb ht with⟨_,h⟩|⟨_,_,_,h⟩|⟨hc,_,h⟩
  ·rw[h];exact rg_same hb kb
  ·rw[h];exact rg_same ha ka
  ·rw[h];exact rg_two ha hb ka kb ht.symm (by rw[lcmp_neg F.wf ht,hc];decide)
 ·rw[end_far ht];exact rg_same hb kb
theorem start_ok(F:Fits T m pos)(ha:has m a=true)(hb:has m b=true)(ka:i<=G.sizeOf m a)(kb:j<=G.sizeOf m b):RgOk T m pos (movedStart m (b,j) (a,i) (hd T pos b) (j:Nat) ⟨1,hd T pos a,(i:Nat),hd T pos a,(i:Nat)⟩):=by
 by_cases ht:top m b=top m a
 ·rcases start_near F ha hb ka kb ht with⟨_,h⟩|⟨_,_,_,h⟩|⟨hc,_,h⟩
  ·rw[h];exact rg_same hb kb
  ·rw[h];exact rg_same ha ka
  ·rw[h];exact rg_two hb ha kb ka ht (by rw[hc];decide)
 ·rw[start_far ht];exact rg_same hb kb
theorem end_id(m:Model)(a b:Nat×Nat)(z k:Int)(r:Rg):(movedEnd m a b z k r).id=r.id:=by unfold movedEnd putEnd;split<;>rfl
theorem start_id(m:Model)(a b:Nat×Nat)(z k:Int)(r:Rg):(movedStart m a b z k r).id=r.id:=by unfold movedStart putStart;split<;>rfl
end
end A
end
section
open Go.RowKit Go.Sort
namespace A
open H G R
theorem set_not{w:World}{S:SMem}(h:SetMem w S){k:Nat}{cs:Array Value}{t:TypeId}(hb:Blk k cs t w)(ht:∀s∈setTypes,s≠t):¬S.foot k:=fun hs=>by
 obtain⟨s,hs2,h2⟩:=h.typed hs;exact ht s hs2 (h2.eq ⟨cs,hb⟩)
theorem cells6{w:World}{g:Nat}{t:TypeId}{a0 a1 a2 a3 a4 a5:Value}(h:Blk g #[a0,a1,a2,a3,a4,a5] t w):w.cell? ⟨g,0,none⟩=some a0/\w.cell? ⟨g,1,none⟩=some a1/\w.cell? ⟨g,2,none⟩=some a2/\w.cell? ⟨g,3,none⟩=some a3/\w.cell? ⟨g,4,none⟩=some a4/\w.cell? ⟨g,5,none⟩=some a5:=⟨(cells_of h).1 0,(cells_of h).1 1,(cells_of h).1 2,(cells_of h).1 3,(cells_of h).1 4,(cells_of h).1 5⟩
structure Stg(w4 W:World)(S:SMem)(gA gP gB gQ:Nat)(a i b j:Nat)(za zb:Int):Prop where
 D:Below w4.heap.size w4 W
 S:SetMem W S
 A:Blk gA #[.int .i64 (a:Nat),.int .i64 (i:Nat)] 30 W
 P:Blk gP #[.int .i64 za,.int .i64 (i:Nat)] 31 W
 B:Blk gB #[.int .i64 (b:Nat),.int .i64 (j:Nat)] 30 W
 Q:Blk gQ #[.int .i64 zb,.int .i64 (j:Nat)] 31 W
section
variable {w4 W W':World} {S S':SMem} {gA gP gB gQ a i b j:Nat} {za zb:Int}
theorem Stg.below(h:Stg w4 W S gA gP gB gQ a i b j za zb)(k:Below W.heap.size W W'):Stg w4 W' S gA gP gB gQ a i b j za zb:=
 ⟨h.D.trans (k.mono h.D.size),h.S.below k,h.A.below k,h.P.below k,h.B.below k,h.Q.below k⟩
theorem Stg.frame(h:Stg w4 W S gA gP gB gQ a i b j za zb)(f:H.Frame S.foot W W')(hs:SetMem W' S')(hl:∀k,S.foot k->w4.heap.size<=k):Stg w4 W' S' gA gP gB gQ a i b j za zb:=
 ⟨h.D.trans (f.below hl h.D.size),hs,h.A.frame f (set_not h.S h.A (by decide)),h.P.frame f (set_not h.S h.P (by decide)),h.B.frame f (set_not h.S h.B (by decide)),h.Q.frame f (set_not h.S h.Q (by decide))⟩
theorem Stg.cells(h:Stg w4 W S gA gP gB gQ a i b j za zb){g:Nat}{t:TypeId}{u0 u1 u2:Value}(hX:Blk g #[u0,u1,u2] t W) :
  (W.cell? ⟨g,0,none⟩=some u0/\W.cell? ⟨g,1,none⟩=some u1/\(∀d:Later W.heap.size W,d.w.cell? ⟨g,0,none⟩=some u0)/\∀d:Later W.heap.size W,d.w.cell? ⟨g,1,none⟩=some u1) ∧
  (W.cell? ⟨gA,0,none⟩=some (.int .i64 (a:Nat))/\W.cell? ⟨gA,1,none⟩=some (.int .i64 (i:Nat))/\(∀d:Later W.heap.size W,d.w.cell? ⟨gA,0,none⟩=some (.int .i64 (a:Nat)))/\∀d:Later W.heap.size W,d.w.cell? ⟨gA,1,none⟩=some (.int .i64 (i:Nat))) ∧
  (W.cell? ⟨gB,0,none⟩=some (.int .i64 (b:Nat))/\W.cell? ⟨gB,1,none⟩=some (.int .i64 (j:Nat))/\(∀d:Later W.heap.size W,d.w.cell? ⟨gB,0,none⟩=some (.int .i64 (b:Nat)))/\∀d:Later W.heap.size W,d.w.cell? ⟨gB,1,none⟩=some (.int .i64 (j:Nat))) ∧
  (W.cell? ⟨gP,0,none⟩=some (.int .i64 za)/\W.cell? ⟨gP,1,none⟩=some (.int .i64 (i:Nat))/\(∀d:Later W.heap.size W,d.w.cell? ⟨gP,0,none⟩=some (.int .i64 za))/\∀d:Later W.heap.size W,d.w.cell? ⟨gP,1,none⟩=some (.int .i64 (i:Nat))) ∧
  (W.cell? ⟨gQ,0,none⟩=some (.int .i64 zb)/\W.cell? ⟨gQ,1,none⟩=some (.int .i64 (j:Nat))/\(∀d:Later W.heap.size W,d.w.cell? ⟨gQ,0,none⟩=some (.int .i64 zb))/\∀d:Later W.heap.size W,d.w.cell? ⟨gQ,1,none⟩=some (.int .i64 (j:Nat))) ∧
  (W.cell? ⟨S.sb,0,none⟩=some S.rv/\∀d:Later W.heap.size W,d.w.cell? ⟨S.sb,0,none⟩=some S.rv):=
 ⟨⟨(cells_of hX).1 0,(cells_of hX).1 1,fun d=>Later.cell ((cells_of hX).1 0) hX.lt d,fun d=>Later.cell ((cells_of hX).1 1) hX.lt d⟩,later2 h.A,later2 h.B,later2 h.P,later2 h.Q,(cells_of h.S.blk).1 0,fun d=>Later.cell ((cells_of h.S.blk).1 0) h.S.blk.lt d⟩
end
end A
end
section
open Go.RowKit Go.Sort
namespace A
open H G R
theorem Sets(os:List G.Op)(v:Value)(p q p2 q2 p3 q3:Nat)(en:Bool)(w:World)(h:OpsAt w v os)(hl:os.length<=9223372036854775807)(hf:∀o,o∈os->o.fits)(ht:UTabs w)(hp:p<256)(hq:q<256)(hp2:p2<256)(hq2:q2<256) :
  Calls Tryz.prog 4 #[v,.agg #[.int .u8 (p:Nat),.int .u8 (q:Nat),.int .u8 (p2:Nat),.int .u8 (q2:Nat),.int .u8 (p3:Nat),.int .u8 (q3:Nat)],.bool en] w fun e w'=>e=.returned (.bool true)/\Below w.heap.size w w':=by
 have hb1:=(Below.refl w.heap.size w).alloc (Nat.le_refl _) (.cells #[.int .u8 (p:Nat),.int .u8 (q:Nat),.int .u8 (p2:Nat),.int .u8 (q2:Nat),.int .u8 (p3:Nat),.int .u8 (q3:Nat)] 46);have HX1:=hi_ (Blk.new w #[.int .u8 (p:Nat),.int .u8 (q:Nat),.int .u8 (p2:Nat),.int .u8 (q2:Nat),.int .u8 (p3:Nat),.int .u8 (q3:Nat)] 46);have HB1:=hi_ hb1;have QA:=hi_ (fun W=>awake9 W);have QF:=hi_ (fun W (hW:Below w.heap.size w W)=>few_ os v W (h.below hW) hl);have QS:=hi_ (fun W (hW:Below w.heap.size w W) (hfw:few os=true)=>start_ os v W (h.below hW) hfw hf (Go.Proofs.YtinphfpdfodkkaaGreatDoor.T.Tabs.below ht hW));have QP:=hi_ (fun(a b:Nat) (ha:a<256) (hb:b<256) (X:Tw) (w0 W:World) (hX:TwIs w0 W X) (g:Good X)=>point_ w0 W X a b hX g.mm g.whole (by have:=g.len;omega) ha hb);clear h hf ht hb1
 go_enter Tryz.func4,Tryz.ntmps4
 go_upto_region 1 with fail
 generalize w.alloc (.cells #[.int .u8 (p:Nat),.int .u8 (q:Nat),.int .u8 (p2:Nat),.int .u8 (q2:Nat),.int .u8 (p3:Nat),.int .u8 (q3:Nat)] 46)=w1 at *;go_wp2_with fail
 refine(QA.out _).mono ?_;rintro e w2 ⟨rfl,hb2⟩;have HB2:=bt_ HB1 hb2;have HY1:=hi_ (HX1.out.below hb2);clear hb2 HX1;have QFw:=hi_ (QF.out w2 HB2.out);generalize hfw:few os=fw at *;clear hfw;go_wp2_with fail
 refine QFw.out.mono ?_;rintro e w3 ⟨rfl,rfl⟩
 cases fw with
 |false=>
  go_wp2_with fail
  refine(QA.out _).mono ?_;rintro e w4 ⟨rfl,hb4⟩;have HB4:=bt_ HB2 hb4;clear hb4;go_wp2_with fail
  go_ret
  exact⟨rfl,HB4.out⟩
 |true=>
  have QSt:=hi_ (QS.out w2 HB2.out rfl);go_wp2_with fail
  refine QSt.out.mono ?_;rintro e w4 ⟨X,rfl,hX,hG⟩;have HX:=hi_ hX;have HG:=hi_ hG;have HW4:=bt_ HB2 hX.bel;have HX1:=hi_ (HY1.out.below hX.bel);clear hX hG QSt QS QFw QF HY1 HB1 HB2;go_upto_region 5 with fail
  have HD5:=hi_ ((Below.refl w4.heap.size w4).alloc (Nat.le_refl _) (.cells #[.slice none 0 0,.slice none 0 0,.int .i64 0] 50));have HS5:=hi_ (SetMem.new w4);have HX2:=hi_ (HX1.out.below HD5.out);have HLo:Hid (∀(u:Nat) b,(SMem.zero w4.heap.size).foot b->w4.heap.size<=b):=hi_ (fun _ b hb=>SMem.zero_foot hb);generalize w4.alloc (.cells #[.slice none 0 0,.slice none 0 0,.int .i64 0] 50)=w5 at *;clear HX1;obtain⟨b0,b1,b2,b3,b4,b5⟩:=cells6 HX2.out;have QP1:=hi_ (QP.out p q hp hq X _ w5 (HX.out.below HD5.out) HG.out);unfold pointR pointV at QP1;go_wp2_with fail
  refine QP1.out.mono ?_;rintro e w6 ⟨rfl,hb6⟩;have HD6:=bt_ HD5 hb6;have HS6:=hi_ (HS5.out.below hb6);have HX3:=hi_ (HX2.out.below hb6);clear hb6 HD5 HS5 HX2 b0 b1 b2 b3 b4 b5 QP1;go_upto_region 6 with fail
  obtain⟨hbp,hpA,hpB⟩:=two_pts w6 (spotN X.m p) (spotI X.m p q) (hv1 X.T X.pos X.m (spotN X.m p));have HD7:=bt_ HD6 hbp;have HS7:=hi_ (HS6.out.below hbp);have HX4:=hi_ (HX3.out.below hbp);have HA7:=hi_ hpA;have HP7:=hi_ hpB;clear hbp hpA hpB HD6 HS6 HX3;generalize (w6.alloc (.cells #[.int .i64 (spotN X.m p:Nat),.int .i64 (spotI X.m p q:Nat)] 30)).alloc (.cells #[.int .i64 (hv1 X.T X.pos X.m (spotN X.m p)),.int .i64 (spotI X.m p q:Nat)] 31)=w7 at *;obtain⟨b0,b1,b2,b3,b4,b5⟩:=cells6 HX4.out;have QP2:=hi_ (QP.out p2 q2 hp2 hq2 X _ w7 (HX.out.below HD7.out) HG.out);unfold pointR pointV at QP2;go_wp2_with fail
  refine QP2.out.mono ?_;rintro e w8 ⟨rfl,hb8⟩;have HD8:=bt_ HD7 hb8;have HS8:=hi_ (HS7.out.below hb8);have HA8:=hi_ (HA7.out.below hb8);have HP8:=hi_ (HP7.out.below hb8);clear hb8 HD7 HS7 HA7 HP7 HX4 b0 b1 b2 b3 b4 b5 QP2 QP;go_upto_region 7 with fail
  obtain⟨hbp,hpA,hpB⟩:=two_pts w8 (spotN X.m p2) (spotI X.m p2 q2) (hv1 X.T X.pos X.m (spotN X.m p2));have HK9:Hid (Stg w4 _ (SMem.zero w4.heap.size) w6.heap.size (w6.heap.size+1) w8.heap.size (w8.heap.size+1) (spotN X.m p) (spotI X.m p q) (spotN X.m p2) (spotI X.m p2 q2) (hv1 X.T X.pos X.m (spotN X.m p)) (hv1 X.T X.pos X.m (spotN X.m p2))):=hi_ ⟨HD8.out.trans (hbp.mono HD8.out.size),HS8.out.below hbp,HA8.out.below hbp,HP8.out.below hbp,hpA,hpB⟩;clear hbp hpA hpB HD8 HS8 HA8 HP8;generalize (w8.alloc (.cells #[.int .i64 (spotN X.m p2:Nat),.int .i64 (spotI X.m p2 q2:Nat)] 30)).alloc (.cells #[.int .i64 (hv1 X.T X.pos X.m (spotN X.m p2)),.int .i64 (spotI X.m p2 q2:Nat)] 31)=w9 at *;have hW:=HX.out.tree.fits.wf;have hna:=spotN_lt hW p;have hnb:=spotN_lt hW p2;have hmm:=HG.out.mm;have hsm:=HG.out.small
  have hml:X.M.nodes.length=X.m.length:=by rw[<-X.M.m_len,hmm]
  have hsz:=fun i=>size_short hW HG.out.whole (by have:=HG.out.len;omega) i;have HPa:=hi_ (spot_pt HX.out p q);have HPb:=hi_ (spot_pt HX.out p2 q2);have QH1:=hi_ (fun W (hM:ModelMem W X.M)=>mHas X.M (spotN X.m p) W hM);have QH2:=hi_ (fun W (hM:ModelMem W X.M)=>mHas X.M (spotN X.m p2) W hM);have QT1:=hi_ (fun W (hM:ModelMem W X.M)=>mTop X.M (spotN X.m p) W hM (by rw[hmm];exact hW) (by rw[hml];exact hna));have QT2:=hi_ (fun W (hM:ModelMem W X.M)=>mTop X.M (spotN X.m p2) W hM (by rw[hmm];exact hW) (by rw[hml];exact hnb))
  have QR0:=hi_ (fun W (hM:ModelMem W X.M) (ha:has X.m (spotN X.m p)=true) (hb:has X.m (spotN X.m p2)=true) (ht:top X.m (spotN X.m p2)=top X.m (spotN X.m p))=>mCompare X.M (spotN X.m p2,spotI X.m p2 q2) (spotN X.m p,spotI X.m p q) W hM (by rw[hmm];exact hW) (by rw[hmm];exact HG.out.whole) (by rw[hmm];have:=HG.out.len;omega) (by rw[hmm];exact⟨hnb,spot_ok hb⟩) (by rw[hmm];exact⟨hna,spot_ok ha⟩) (by rw[hmm];exact ht));have HRc:=hi_ (fun(ha:has X.m (spotN X.m p)=true) (hb:has X.m (spotN X.m p2)=true) (ht:top X.m (spotN X.m p2)=top X.m (spotN X.m p))=>lcmp_ref hW (a:=(spotN X.m p2,spotI X.m p2 q2)) (b:=(spotN X.m p,spotI X.m p q)) ⟨hnb,spot_ok hb⟩ ⟨hna,spot_ok ha⟩ ht)
  have HZr:=hi_ (fun(ha:has X.m (spotN X.m p)=true) (hb:has X.m (spotN X.m p2)=true) (ht:top X.m (spotN X.m p2)=top X.m (spotN X.m p))=>refCmp_zero hW (a:=(spotN X.m p2,spotI X.m p2 q2)) (b:=(spotN X.m p,spotI X.m p q)) ⟨hnb,spot_ok hb⟩ ⟨hna,spot_ok ha⟩ ht);have HKa:=hi_ (fun(ha:has X.m (spotN X.m p)=true)=>spot_ok (q:=q) ha);have HKb:=hi_ (fun(hb:has X.m (spotN X.m p2)=true)=>spot_ok (q:=q2) hb);rw[hmm]at QH1 QH2 QT1 QT2 QR0;generalize spotI X.m p q=i at *;generalize spotI X.m p2 q2=j at *;generalize spotN X.m p=a at *;generalize spotN X.m p2=b at *;clear hp hq hp2 hq2 hna hnb hmm hml
  cases hha:has X.m a with
  |false=>
   have hz:hv1 X.T X.pos X.m a=-1:=hv1_gone hha;rw[hha]at QH1 HPa;have QC:=hi_ (fun W (hT:TreeIs W X.T X.m X.pos) (hS:SetMem W (SMem.zero w4.heap.size))=>create_bad X.T X.m X.pos (SMem.zero w4.heap.size) _ _ _ W hT hS hsm HPa.out (by decide));generalize hv1 X.T X.pos X.m a=z at *;generalize hv1 X.T X.pos X.m b=z2 at *;unfold pointV at QC;have e6:(if false=true then(0:Int)else 6)=6:=rfl;rw[e6]at QC;clear hz hha HPa e6 hsm hsz hW QR0 HRc HZr HKa HKb HPb;have HX9:=hi_ (HX.out.below HK9.out.D);obtain⟨⟨c0,c1,Dc0,Dc1⟩,⟨a0,a1,Da0,Da1⟩,⟨b0,b1,Db0,Db1⟩,⟨p0,p1,Dp0,Dp1⟩,⟨q0,q1,Dq0,Dq1⟩,y0,Dy0⟩:=HK9.out.cells HX9.out.blk;dsimp only[SMem.zero]at y0 Dy0;go_wp2_with fail
   refine wp_region_later (by kernel_rfl) (by kernel_rfl) ?_;repeat (go_big_quiet_step ((go_at_call 17;exact Calls.later (QC.out _ (HX9.out.below (Later.h _)).tree (HK9.out.S.below (Later.h _))))))
   refine wq_ (fun dq=>?_);have HK10:=hi_ (HK9.out.below dq.h);clear Dc0 Dc1 Da0 Da1 Db0 Db1 Dp0 Dp1 Dq0 Dq1 Dy0 a0 a1 b0 b1 p0 p1 q0 q1 c0 c1 y0;clear HK9;generalize dq.w=w10 at *;clear dq;have HX10:=hi_ (HX.out.below HK10.out.D);obtain⟨⟨c0,c1,Dc0,Dc1⟩,⟨a0,a1,Da0,Da1⟩,⟨b0,b1,Db0,Db1⟩,⟨p0,p1,Dp0,Dp1⟩,⟨q0,q1,Dq0,Dq1⟩,y0,Dy0⟩:=HK10.out.cells HX10.out.blk;dsimp only[SMem.zero]at y0 Dy0;go_wp2_with fail
   refine wp_region_later (by kernel_rfl) (by kernel_rfl) ?_;repeat (go_big_quiet_step ((go_at_call 14;exact Calls.later_same (QH1.out _ ((HX10.out.below (Later.h _)).model)))))
   refine wq_ (fun dq=>?_);have HK11:=hi_ (HK10.out.below dq.h);clear Dc0 Dc1 Da0 Da1 Db0 Db1 Dp0 Dp1 Dq0 Dq1 Dy0 a0 a1 b0 b1 p0 p1 q0 q1 c0 c1 y0;clear HK10;generalize dq.w=w11 at *;clear dq;obtain⟨s0,_⟩:=cellsT HK11.out.S.blk;have HW11:=bt_ HW4 HK11.out.D;dsimp only[SMem.zero]at s0;go_wp2_with fail
   go_ret
   exact⟨rfl,HW11.out⟩
  |true=>
   have hz:hv1 X.T X.pos X.m a=hd X.T X.pos a:=hv1_of hha;have hka:=HKa.out hha;have hszA:=hsz a;have hpa:PtIs X.T X.m X.pos (hd X.T X.pos a) (i:Nat) 0:=Or.inl ⟨a,hha,rfl,by rw[if_pos (okPt_of hka)]⟩;have hpm:PtIs X.T X.m X.pos (hd X.T X.pos a) (-1) 2:=Or.inl ⟨a,hha,rfl,by rw[if_neg (by unfold okPt;simp)]⟩;have hpw:PtIs X.T X.m X.pos (hd X.T X.pos a) 1073741824 2:=Or.inl ⟨a,hha,rfl,by rw[if_neg (by unfold okPt;rw[decide_eq_false (p:=(1073741824:Int)<=_) (by omega),Bool.and_false];decide)]⟩;rw[hz];rw[hz]at HK9;rw[hha]at QH1;have QC1:=hi_ (fun W (hT:TreeIs W X.T X.m X.pos) (hS:SetMem W (SMem.zero w4.heap.size))=>create_one X.T X.m X.pos w4.heap.size _ _ W hT hS hsm hpa)
   have QC2:=hi_ (fun ao cap W (hT:TreeIs W X.T X.m X.pos) (hS:SetMem W (SMem.one w4.heap.size ao cap ⟨1,hd X.T X.pos a,(i:Nat),hd X.T X.pos a,(i:Nat)⟩))=>create_bad X.T X.m X.pos _ _ _ _ W hT hS hsm hpm (by decide));have QC3:=hi_ (fun ao cap W (hT:TreeIs W X.T X.m X.pos) (hS:SetMem W (SMem.one w4.heap.size ao cap ⟨1,hd X.T X.pos a,(i:Nat),hd X.T X.pos a,(i:Nat)⟩))=>create_bad X.T X.m X.pos _ _ _ _ W hT hS hsm hpw (by decide));have QN7:=hi_ (fun ao cap tv W (hT:TreeIs W X.T X.m X.pos) (hS:SetMem W (SMem.one w4.heap.size ao cap ⟨1,hd X.T X.pos a,(i:Nat),hd X.T X.pos a,(i:Nat)⟩))=>setStart_none _ 7 (hd X.T X.pos a) (i:Nat) tv W hS (find_seven _ rfl));unfold pointV at QC1 QC2 QC3 QN7;clear hpa hpm hpw hz HPa;obtain⟨za,hza⟩:∃za,za=hd X.T X.pos a:=⟨_,rfl⟩;have HZa:=hi_ hza;rw[<-hza]at QC1 QC2 QC3 QN7 HK9 ⊢;clear hza
   have HX9:=hi_ (HX.out.below HK9.out.D);obtain⟨⟨c0,c1,Dc0,Dc1⟩,⟨a0,a1,Da0,Da1⟩,⟨b0,b1,Db0,Db1⟩,⟨p0,p1,Dp0,Dp1⟩,⟨q0,q1,Dq0,Dq1⟩,y0,Dy0⟩:=HK9.out.cells HX9.out.blk;dsimp only[SMem.zero]at y0 Dy0;go_wp2_with fail
   refine wp_region_mid 5 _ _ (by kernel_rfl) (by kernel_rfl) rfl ?_;simp only[List.take_succ_cons,List.take_zero];repeat (go_big_quiet_step (fail))
   refine wq_ (fun dq=>?_);intro K hK;have HK10:=hi_ (HK9.out.below dq.h);clear Dc0 Dc1 Da0 Da1 Db0 Db1 Dp0 Dp1 Dq0 Dq1 Dy0 a0 a1 b0 b1 p0 p1 q0 q1 c0 c1 y0;clear HK9;generalize dq.w=w10 at *;clear dq;go_simp
   go_at_call 17
   refine(QC1.out w10 (HX.out.below HK10.out.D).tree HK10.out.S).mono ?_;rintro e w11 ⟨ao,cap,rfl,hf,hs,hlo1⟩;have HK11:=hi_ (HK10.out.frame hf hs (HLo.out 0));clear hf hs;clear HK10;go_simp
   refine hK _ _ (midQ_normal ?_);clear hK K;repeat (go_big_quiet_step (fail))
   refine wq_ (fun dq=>?_);have HK12:=hi_ (HK11.out.below dq.h);clear HK11;generalize dq.w=w12 at *;clear dq;clear HLo QC1;have HLo:=hi_ hlo1;clear hlo1;have QC2:=hi_ (QC2.out ao cap);have QC3:=hi_ (QC3.out ao cap);have QN7:=hi_ (QN7.out ao cap (.pointer (some ⟨X.T.tb,0,none⟩)));have HX12:=hi_ (HX.out.below HK12.out.D);obtain⟨⟨c0,c1,Dc0,Dc1⟩,⟨a0,a1,Da0,Da1⟩,⟨b0,b1,Db0,Db1⟩,⟨p0,p1,Dp0,Dp1⟩,⟨q0,q1,Dq0,Dq1⟩,y0,Dy0⟩:=HK12.out.cells HX12.out.blk;dsimp only[SMem.one]at y0 Dy0;go_wp2_with fail
   refine wp_region_later (by kernel_rfl) (by kernel_rfl) ?_;repeat (go_big_quiet_step ((go_at_call 14;exact Calls.later_same (QH1.out _ ((HX12.out.below (Later.h _)).model)))))
   refine wq_ (fun dq=>?_);have HK13:=hi_ (HK12.out.below dq.h);clear Dc0 Dc1 Da0 Da1 Db0 Db1 Dp0 Dp1 Dq0 Dq1 Dy0 a0 a1 b0 b1 p0 p1 q0 q1 c0 c1 y0;clear HK12;generalize dq.w=w13 at *;clear dq;have HX13:=hi_ (HX.out.below HK13.out.D);obtain⟨⟨c0,c1,Dc0,Dc1⟩,⟨a0,a1,Da0,Da1⟩,⟨b0,b1,Db0,Db1⟩,⟨p0,p1,Dp0,Dp1⟩,⟨q0,q1,Dq0,Dq1⟩,y0,Dy0⟩:=HK13.out.cells HX13.out.blk;dsimp only[SMem.one]at y0 Dy0;go_wp2_with fail
   refine wp_region_later (by kernel_rfl) (by kernel_rfl) ?_;repeat (go_big_quiet_step ((go_at_call 17;exact Calls.later (QC2.out _ (HX13.out.below (Later.h _)).tree (HK13.out.S.below (Later.h _))))))
   refine wq_ (fun dq=>?_);have HK14:=hi_ (HK13.out.below dq.h);clear Dc0 Dc1 Da0 Da1 Db0 Db1 Dp0 Dp1 Dq0 Dq1 Dy0 a0 a1 b0 b1 p0 p1 q0 q1 c0 c1 y0;clear HK13;generalize dq.w=w14 at *;clear dq;have HX14:=hi_ (HX.out.below HK14.out.D);obtain⟨⟨c0,c1,Dc0,Dc1⟩,⟨a0,a1,Da0,Da1⟩,⟨b0,b1,Db0,Db1⟩,⟨p0,p1,Dp0,Dp1⟩,⟨q0,q1,Dq0,Dq1⟩,y0,Dy0⟩:=HK14.out.cells HX14.out.blk;dsimp only[SMem.one]at y0 Dy0;go_wp2_with fail
   refine wp_region_later (by kernel_rfl) (by kernel_rfl) ?_;repeat (go_big_quiet_step ((go_at_call 17;exact Calls.later (QC3.out _ (HX14.out.below (Later.h _)).tree (HK14.out.S.below (Later.h _))))))
   refine wq_ (fun dq=>?_);have HK15:=hi_ (HK14.out.below dq.h);clear Dc0 Dc1 Da0 Da1 Db0 Db1 Dp0 Dp1 Dq0 Dq1 Dy0 a0 a1 b0 b1 p0 p1 q0 q1 c0 c1 y0;clear HK14;generalize dq.w=w15 at *;clear dq;have HX15:=hi_ (HX.out.below HK15.out.D);obtain⟨⟨c0,c1,Dc0,Dc1⟩,⟨a0,a1,Da0,Da1⟩,⟨b0,b1,Db0,Db1⟩,⟨p0,p1,Dp0,Dp1⟩,⟨q0,q1,Dq0,Dq1⟩,y0,Dy0⟩:=HK15.out.cells HX15.out.blk;dsimp only[SMem.one]at y0 Dy0;go_wp2_with fail
   refine wp_region_later (by kernel_rfl) (by kernel_rfl) ?_;repeat (go_big_quiet_step ((go_at_call 18;exact Calls.later (QN7.out _ (HX15.out.below (Later.h _)).tree (HK15.out.S.below (Later.h _))))))
   refine wq_ (fun dq=>?_);have HK16:=hi_ (HK15.out.below dq.h);clear Dc0 Dc1 Da0 Da1 Db0 Db1 Dp0 Dp1 Dq0 Dq1 Dy0 a0 a1 b0 b1 p0 p1 q0 q1 c0 c1 y0;clear HK15;generalize dq.w=w16 at *;clear dq;clear QC2 QC3 QN7
   cases en with
   |true=>
    cases hhb:has X.m b with
    |false=>
     have hz:hv1 X.T X.pos X.m b=-1:=hv1_gone hhb;rw[hhb]at QH2 HPb;have e6:(if false=true then(0:Int)else 6)=6:=rfl;rw[e6]at HPb;have QSb:=hi_ (fun W (hT:TreeIs W X.T X.m X.pos) (hS:SetMem W (SMem.one w4.heap.size ao cap ⟨1,za,(i:Nat),za,(i:Nat)⟩))=>setEnd_one_bad X.T X.m X.pos w4.heap.size ao cap _ _ _ _ W hT hS hsm rfl HPb.out (by decide));have hok:RgOk X.T X.m X.pos ⟨1,za,(i:Nat),za,(i:Nat)⟩:=by rw[HZa.out];exact rg_same hha hka
     have QV:=hi_ (fun W (hT:TreeIs W X.T X.m X.pos) (hS:SetMem W (SMem.one w4.heap.size ao cap ⟨1,za,(i:Nat),za,(i:Nat)⟩))=>valid_one X.T X.m X.pos w4.heap.size ao cap _ W hT hS HG.out.whole (fun x=>by have:=HG.out.attrs x;omega) (by have:=HG.out.len;omega) rfl hok);generalize hv1 X.T X.pos X.m b=zb at *;unfold pointV at QSb;clear hz e6 HPb hok hha hhb hka hsm hsz hszA hW QR0 HRc HZr HKa HKb;have HX16:=hi_ (HX.out.below HK16.out.D);obtain⟨⟨c0,c1,Dc0,Dc1⟩,⟨a0,a1,Da0,Da1⟩,⟨b0,b1,Db0,Db1⟩,⟨p0,p1,Dp0,Dp1⟩,⟨q0,q1,Dq0,Dq1⟩,y0,Dy0⟩:=HK16.out.cells HX16.out.blk;dsimp only[SMem.one]at y0 Dy0;go_wp2_with fail
     refine wp_region_later (by kernel_rfl) (by kernel_rfl) ?_;repeat (go_big_quiet_step ((go_at_call 19;exact Calls.later (QSb.out _ (HX16.out.below (Later.h _)).tree (HK16.out.S.below (Later.h _))))))
     refine wq_ (fun dq=>?_);have HK17:=hi_ (HK16.out.below dq.h);clear Dc0 Dc1 Da0 Da1 Db0 Db1 Dp0 Dp1 Dq0 Dq1 Dy0 a0 a1 b0 b1 p0 p1 q0 q1 c0 c1 y0;clear HK16;generalize dq.w=w17 at *;clear dq;have QRg:=hi_ (range_one w4.heap.size ao cap ⟨1,za,(i:Nat),za,(i:Nat)⟩ w17 HK17.out.S rfl);unfold rgV at QRg;go_wp2_with fail
     refine QRg.out.mono ?_;rintro e w18 ⟨rfl,hbr⟩;have HK18:=hi_ (HK17.out.below hbr);clear HK17;clear hbr QRg;go_upto_region 19 with fail
     have hbn:=(Below.refl w18.heap.size w18).alloc (Nat.le_refl _) (.cells #[.int .i64 1,.int .i64 za,.int .i64 (i:Nat),.int .i64 za,.int .i64 (i:Nat)] 54);have HR19:=hi_ (Blk.new w18 #[.int .i64 1,.int .i64 za,.int .i64 (i:Nat),.int .i64 za,.int .i64 (i:Nat)] 54);have HK19:=hi_ (HK18.out.below hbn);clear HK18;clear hbn;generalize w18.alloc (.cells #[.int .i64 1,.int .i64 za,.int .i64 (i:Nat),.int .i64 za,.int .i64 (i:Nat)] 54)=w19 at *;have HX19:=hi_ (HX.out.below HK19.out.D);obtain⟨⟨c0,c1,Dc0,Dc1⟩,⟨a0,a1,Da0,Da1⟩,⟨b0,b1,Db0,Db1⟩,⟨p0,p1,Dp0,Dp1⟩,⟨q0,q1,Dq0,Dq1⟩,y0,Dy0⟩:=HK19.out.cells HX19.out.blk;dsimp only[SMem.one]at y0 Dy0;go_wp2_with fail
     refine(QV.out w19 HX19.out.tree HK19.out.S).mono ?_;rintro e w20 ⟨rfl,hbv⟩;have HK20:=hi_ (HK19.out.below hbv);have HR20:=hi_ (HR19.out.below hbv);clear Dc0 Dc1 Da0 Da1 Db0 Db1 Dp0 Dp1 Dq0 Dq1 Dy0 a0 a1 b0 b1 p0 p1 q0 q1 c0 c1 y0;clear HK19;clear HR19 hbv;have HX20:=hi_ (HX.out.below HK20.out.D);obtain⟨⟨c0,c1,Dc0,Dc1⟩,⟨a0,a1,Da0,Da1⟩,⟨b0,b1,Db0,Db1⟩,⟨p0,p1,Dp0,Dp1⟩,⟨q0,q1,Dq0,Dq1⟩,y0,Dy0⟩:=HK20.out.cells HX20.out.blk;dsimp only[SMem.one]at y0 Dy0;go_wp2_with fail
     refine wp_region_later (by kernel_rfl) (by kernel_rfl) ?_;repeat (go_big_quiet_step ((go_at_call 14;exact Calls.later_same (QH2.out _ ((HX20.out.below (Later.h _)).model)))))
     refine wq_ (fun dq=>?_);have HK21:=hi_ (HK20.out.below dq.h);have HR21:=hi_ (HR20.out.below dq.h);clear Dc0 Dc1 Da0 Da1 Db0 Db1 Dp0 Dp1 Dq0 Dq1 Dy0 a0 a1 b0 b1 p0 p1 q0 q1 c0 c1 y0;clear HK20;clear HR20;generalize dq.w=w21 at *;clear dq;obtain⟨p0,p1⟩:=cells2 HK21.out.P;obtain⟨q0,q1⟩:=cells2 HK21.out.Q;obtain⟨⟨r0,r1,r2,r3,r4⟩,_⟩:=cells5 HR21.out;have HWk:=bt_ HW4 HK21.out.D;go_wp2_with fail
     go_ret
     exact⟨rfl,HWk.out⟩
    |true=>
     have hz:hv1 X.T X.pos X.m b=hd X.T X.pos b:=hv1_of hhb;have hkb:=HKb.out hhb;have hszB:=hsz b;rw[hz];rw[hz]at HK16;rw[hhb]at QH2;obtain⟨zb,hzb⟩:∃zb,zb=hd X.T X.pos b:=⟨_,rfl⟩;have HZb:=hi_ hzb;obtain⟨R,hR⟩:∃R,R=movedEnd X.m (b,j) (a,i) zb (j:Nat) ⟨1,za,(i:Nat),za,(i:Nat)⟩:=⟨_,rfl⟩;have hrid:R.id=1:=by rw[hR];exact end_id _ _ _ _ _ _
     have hok:RgOk X.T X.m X.pos R:=by rw[hR,HZa.out,HZb.out];exact end_ok HX.out.tree.fits hha hhb hka hkb
     have hfar:=end_far (T:=X.T) (m:=X.m) (pos:=X.pos) (a:=a) (b:=b) (i:=i) (j:=j);have hnear:=end_near (i:=i) (j:=j) HX.out.tree.fits hha hhb hka hkb;rw[<-HZa.out,<-HZb.out,<-hR]at hfar hnear;have HFar:=hi_ hfar;have HNear:=hi_ hnear;have QSg:=hi_ (fun W (hT:TreeIs W X.T X.m X.pos) (hS:SetMem W (SMem.one w4.heap.size ao cap ⟨1,za,(i:Nat),za,(i:Nat)⟩))=>setEnd_one X.T X.m X.pos w4.heap.size ao cap _ (b,j) (a,i) W hT hS hsm rfl hhb hkb (by show j<=_;omega) hha hka (by show i<=_;omega) HZa.out rfl);rw[<-HZb.out,<-hR]at QSg;obtain⟨rid,s1,k1,e1,l1⟩:=R;dsimp only at hrid;subst hrid
     have QV:=hi_ (fun W (hT:TreeIs W X.T X.m X.pos) (hS:SetMem W (SMem.one w4.heap.size ao cap ⟨1,s1,k1,e1,l1⟩))=>valid_one X.T X.m X.pos w4.heap.size ao cap _ W hT hS HG.out.whole (fun x=>by have:=HG.out.attrs x;omega) (by have:=HG.out.len;omega) rfl hok);rw[<-hzb]at HK16 ⊢;unfold pointV at QSg;clear hz hzb hR hok hfar hnear HPb hka hkb hszA hszB hsm hsz hW HKa HKb;have HX16:=hi_ (HX.out.below HK16.out.D);obtain⟨⟨c0,c1,Dc0,Dc1⟩,⟨a0,a1,Da0,Da1⟩,⟨b0,b1,Db0,Db1⟩,⟨p0,p1,Dp0,Dp1⟩,⟨q0,q1,Dq0,Dq1⟩,y0,Dy0⟩:=HK16.out.cells HX16.out.blk;dsimp only[SMem.one]at y0 Dy0;go_wp2_with fail
     refine wp_region_mid 6 _ _ (by kernel_rfl) (by kernel_rfl) rfl ?_;simp only[List.take_succ_cons,List.take_zero];repeat (go_big_quiet_step (fail))
     refine wq_ (fun dq=>?_);intro K hK;have HK17:=hi_ (HK16.out.below dq.h);clear Dc0 Dc1 Da0 Da1 Db0 Db1 Dp0 Dp1 Dq0 Dq1 Dy0 a0 a1 b0 b1 p0 p1 q0 q1 c0 c1 y0;clear HK16;generalize dq.w=w17 at *;clear dq;go_simp
     go_at_call 19
     refine(QSg.out w17 (HX.out.below HK17.out.D).tree HK17.out.S).mono ?_;rintro e w18 ⟨rfl,hf,hs⟩;have HK18:=hi_ (HK17.out.frame hf hs (HLo.out _));clear hf hs;clear HK17;go_simp
     refine hK _ _ (midQ_normal ?_);clear hK K;repeat (go_big_quiet_step (fail))
     refine wq_ (fun dq=>?_);have HK19:=hi_ (HK18.out.below dq.h);clear HK18;generalize dq.w=w19 at *;clear dq;have QRg:=hi_ (range_one w4.heap.size ao cap ⟨1,s1,k1,e1,l1⟩ w19 HK19.out.S rfl);unfold rgV at QRg;go_wp2_with fail
     refine QRg.out.mono ?_;rintro e w20 ⟨rfl,hbr⟩;have HK20:=hi_ (HK19.out.below hbr);clear HK19;clear hbr QRg;go_upto_region 19 with fail
     have hbn:=(Below.refl w20.heap.size w20).alloc (Nat.le_refl _) (.cells #[.int .i64 1,.int .i64 s1,.int .i64 k1,.int .i64 e1,.int .i64 l1] 54);have HR21:=hi_ (Blk.new w20 #[.int .i64 1,.int .i64 s1,.int .i64 k1,.int .i64 e1,.int .i64 l1] 54);have HK21:=hi_ (HK20.out.below hbn);clear HK20;clear hbn;generalize w20.alloc (.cells #[.int .i64 1,.int .i64 s1,.int .i64 k1,.int .i64 e1,.int .i64 l1] 54)=w21 at *;have HX21:=hi_ (HX.out.below HK21.out.D);obtain⟨⟨c0,c1,Dc0,Dc1⟩,⟨a0,a1,Da0,Da1⟩,⟨b0,b1,Db0,Db1⟩,⟨p0,p1,Dp0,Dp1⟩,⟨q0,q1,Dq0,Dq1⟩,y0,Dy0⟩:=HK21.out.cells HX21.out.blk;dsimp only[SMem.one]at y0 Dy0;go_wp2_with fail
     refine(QV.out w21 HX21.out.tree HK21.out.S).mono ?_;rintro e w22 ⟨rfl,hbv⟩;have HK22:=hi_ (HK21.out.below hbv);have HR22:=hi_ (HR21.out.below hbv);clear Dc0 Dc1 Da0 Da1 Db0 Db1 Dp0 Dp1 Dq0 Dq1 Dy0 a0 a1 b0 b1 p0 p1 q0 q1 c0 c1 y0;clear HK21;clear HR21 hbv;have HX22:=hi_ (HX.out.below HK22.out.D);obtain⟨⟨c0,c1,Dc0,Dc1⟩,⟨a0,a1,Da0,Da1⟩,⟨b0,b1,Db0,Db1⟩,⟨p0,p1,Dp0,Dp1⟩,⟨q0,q1,Dq0,Dq1⟩,y0,Dy0⟩:=HK22.out.cells HX22.out.blk;dsimp only[SMem.one]at y0 Dy0;go_wp2_with fail
     refine wp_region_later (by kernel_rfl) (by kernel_rfl) ?_;repeat (go_big_quiet_step ((go_at_call 14;exact Calls.later_same (QH2.out _ ((HX22.out.below (Later.h _)).model)))))
     refine wq_ (fun dq=>?_);have HK23:=hi_ (HK22.out.below dq.h);have HR23:=hi_ (HR22.out.below dq.h);clear Dc0 Dc1 Da0 Da1 Db0 Db1 Dp0 Dp1 Dq0 Dq1 Dy0 a0 a1 b0 b1 p0 p1 q0 q1 c0 c1 y0;clear HK22;clear HR22;generalize dq.w=w23 at *;clear dq
     by_cases ht:top X.m b=top X.m a
     ·have QR:=hi_ (fun W (hM:ModelMem W X.M)=>QR0.out W hM hha hhb ht)
      rw[<-HRc.out hha hhb ht]at QR;have HNr:=hi_ (HNear.out ht);have te2:(((top X.m a:Nat):Int)==((top X.m b:Nat):Int))=true:=by rw[ht];exact beq_self_eq_true _
      have te3:(((top X.m a:Nat):Int) != ((top X.m b:Nat):Int))=false:=by rw[ht];simp
      generalize top X.m a=t at *;generalize top X.m b=t2 at *;generalize lcmp X.m (b,j) (a,i)=lc at *;clear QR0 HRc HZr hha hhb ht HFar HNear;have HX23:=hi_ (HX.out.below HK23.out.D);obtain⟨⟨c0,c1,Dc0,Dc1⟩,⟨a0,a1,Da0,Da1⟩,⟨b0,b1,Db0,Db1⟩,⟨p0,p1,Dp0,Dp1⟩,⟨q0,q1,Dq0,Dq1⟩,y0,Dy0⟩:=HK23.out.cells HX23.out.blk;dsimp only[SMem.one]at y0 Dy0;go_wp2_with fail
      refine wp_region_later (by kernel_rfl) (by kernel_rfl) ?_;repeat (go_big_quiet_step ((first|(go_at_call_of 15 (Value.int .i64 ((a:Nat):Int));with_reducible exact Calls.later_same (QT1.out _ ((HX23.out.below (Later.h _)).model)))|(go_at_call 15;with_reducible exact Calls.later_same (QT2.out _ ((HX23.out.below (Later.h _)).model))))))
      refine wq_ (fun dq=>?_);have HK24:=hi_ (HK23.out.below dq.h);have HR24:=hi_ (HR23.out.below dq.h);clear Dc0 Dc1 Da0 Da1 Db0 Db1 Dp0 Dp1 Dq0 Dq1 Dy0 a0 a1 b0 b1 p0 p1 q0 q1 c0 c1 y0;clear HK23;clear HR23;generalize dq.w=w24 at *;clear dq;have HX24:=hi_ (HX.out.below HK24.out.D);obtain⟨⟨c0,c1,Dc0,Dc1⟩,⟨a0,a1,Da0,Da1⟩,⟨b0,b1,Db0,Db1⟩,⟨p0,p1,Dp0,Dp1⟩,⟨q0,q1,Dq0,Dq1⟩,y0,Dy0⟩:=HK24.out.cells HX24.out.blk;dsimp only[SMem.one]at y0 Dy0;go_wp2_with fail
      refine wp_region_later (by kernel_rfl) (by kernel_rfl) ?_;repeat (go_big_quiet_step ((go_at_call 16;exact Calls.later (QR.out _ ((HX24.out.below (Later.h _)).model)))))
      refine wq_ (fun dq=>?_);have HK25:=hi_ (HK24.out.below dq.h);have HR25:=hi_ (HR24.out.below dq.h);clear Dc0 Dc1 Da0 Da1 Db0 Db1 Dp0 Dp1 Dq0 Dq1 Dy0 a0 a1 b0 b1 p0 p1 q0 q1 c0 c1 y0;clear HK24;clear HR24;generalize dq.w=w25 at *;clear dq
      rcases HNr.out with⟨hc,hm⟩|⟨hc,hb',hj,hm⟩|⟨hc,hne,hm⟩
      ·injection hm with m1 m2 m3 m4 m5
       rw[m2,m3,m4,m5]at HR25;subst hc;clear m1 m2 m3 m4 m5 HNr;obtain⟨p0,p1⟩:=cells2 HK25.out.P;obtain⟨q0,q1⟩:=cells2 HK25.out.Q;obtain⟨⟨r0,r1,r2,r3,r4⟩,_⟩:=cells5 HR25.out;have HWk:=bt_ HW4 HK25.out.D;go_wp2_with fail
       go_ret
       exact⟨rfl,HWk.out⟩
      ·injection hm with m1 m2 m3 m4 m5
       have hzz:zb=za:=by rw[HZb.out,HZa.out,hb']
       rw[m2,m3,m4,m5]at HR25;rw[hzz,hj]at HK25;subst hc;clear m1 m2 m3 m4 m5 HNr hzz hj hb';obtain⟨p0,p1⟩:=cells2 HK25.out.P;obtain⟨q0,q1⟩:=cells2 HK25.out.Q;obtain⟨⟨r0,r1,r2,r3,r4⟩,_⟩:=cells5 HR25.out;have HWk:=bt_ HW4 HK25.out.D;go_wp2_with fail
       go_ret
       exact⟨rfl,HWk.out⟩
      ·injection hm with m1 m2 m3 m4 m5
       rw[m2,m3,m4,m5]at HR25;subst hc;clear m1 m2 m3 m4 m5 HNr
       by_cases hzz:za=zb
       ·have hij:=hne.resolve_left (fun h=>h hzz)
        have i1:((i:Int)==(j:Int))=false:=beq_eq_false_iff_ne.2 hij;have i2:¬(i:Int)=(j:Int):=hij;have i3:((j:Int)==(i:Int))=false:=beq_eq_false_iff_ne.2 (fun h=>hij h.symm);have i4:¬(j:Int)=(i:Int):=fun h=>hij h.symm;rw[<-hzz]at HK25 HR25;clear hne hij hzz;obtain⟨p0,p1⟩:=cells2 HK25.out.P;obtain⟨q0,q1⟩:=cells2 HK25.out.Q;obtain⟨⟨r0,r1,r2,r3,r4⟩,_⟩:=cells5 HR25.out;have HWk:=bt_ HW4 HK25.out.D;go_wp2_with fail
        go_ret
        exact⟨rfl,HWk.out⟩
       ·have z1:(za==zb)=false:=beq_eq_false_iff_ne.2 hzz
        have z3:(zb==za)=false:=beq_eq_false_iff_ne.2 (fun h=>hzz h.symm);have z4:¬zb=za:=fun h=>hzz h.symm;clear hne;obtain⟨p0,p1⟩:=cells2 HK25.out.P;obtain⟨q0,q1⟩:=cells2 HK25.out.Q;obtain⟨⟨r0,r1,r2,r3,r4⟩,_⟩:=cells5 HR25.out;have HWk:=bt_ HW4 HK25.out.D;go_wp2_with fail
        go_ret
        exact⟨rfl,HWk.out⟩
     ·have hm:=HFar.out ht
      injection hm with m1 m2 m3 m4 m5
      rw[m2,m3,m4,m5]at HR23;clear m2 m3 m4 m5;have hne:¬((top X.m a:Nat):Int)=((top X.m b:Nat):Int):=by omega
      have hne2:(((top X.m a:Nat):Int)==((top X.m b:Nat):Int))=false:=beq_eq_false_iff_ne.2 hne;have hne3:(((top X.m a:Nat):Int) != ((top X.m b:Nat):Int))=true:=bne_iff_ne.2 hne;generalize top X.m a=t at *;generalize top X.m b=t2 at *;clear QR0 HRc HZr hha hhb ht HFar HNear m1;have HX23:=hi_ (HX.out.below HK23.out.D);obtain⟨⟨c0,c1,Dc0,Dc1⟩,⟨a0,a1,Da0,Da1⟩,⟨b0,b1,Db0,Db1⟩,⟨p0,p1,Dp0,Dp1⟩,⟨q0,q1,Dq0,Dq1⟩,y0,Dy0⟩:=HK23.out.cells HX23.out.blk;dsimp only[SMem.one]at y0 Dy0;go_wp2_with fail
      refine wp_region_later (by kernel_rfl) (by kernel_rfl) ?_;repeat (go_big_quiet_step ((first|(go_at_call_of 15 (Value.int .i64 ((a:Nat):Int));with_reducible exact Calls.later_same (QT1.out _ ((HX23.out.below (Later.h _)).model)))|(go_at_call 15;with_reducible exact Calls.later_same (QT2.out _ ((HX23.out.below (Later.h _)).model))))))
      refine wq_ (fun dq=>?_);have HK24:=hi_ (HK23.out.below dq.h);have HR24:=hi_ (HR23.out.below dq.h);clear Dc0 Dc1 Da0 Da1 Db0 Db1 Dp0 Dp1 Dq0 Dq1 Dy0 a0 a1 b0 b1 p0 p1 q0 q1 c0 c1 y0;clear HK23;clear HR23;generalize dq.w=w24 at *;clear dq;obtain⟨p0,p1⟩:=cells2 HK24.out.P;obtain⟨q0,q1⟩:=cells2 HK24.out.Q;obtain⟨⟨r0,r1,r2,r3,r4⟩,_⟩:=cells5 HR24.out;have HWk:=bt_ HW4 HK24.out.D;go_wp2_with fail
      go_ret
      exact⟨rfl,HWk.out⟩
   |false=>
    cases hhb:has X.m b with
    |false=>
     have hz:hv1 X.T X.pos X.m b=-1:=hv1_gone hhb;rw[hhb]at QH2 HPb;have e6:(if false=true then(0:Int)else 6)=6:=rfl;rw[e6]at HPb;have QSb:=hi_ (fun W (hT:TreeIs W X.T X.m X.pos) (hS:SetMem W (SMem.one w4.heap.size ao cap ⟨1,za,(i:Nat),za,(i:Nat)⟩))=>setStart_one_bad X.T X.m X.pos w4.heap.size ao cap _ _ _ _ W hT hS hsm rfl HPb.out (by decide));have hok:RgOk X.T X.m X.pos ⟨1,za,(i:Nat),za,(i:Nat)⟩:=by rw[HZa.out];exact rg_same hha hka
     have QV:=hi_ (fun W (hT:TreeIs W X.T X.m X.pos) (hS:SetMem W (SMem.one w4.heap.size ao cap ⟨1,za,(i:Nat),za,(i:Nat)⟩))=>valid_one X.T X.m X.pos w4.heap.size ao cap _ W hT hS HG.out.whole (fun x=>by have:=HG.out.attrs x;omega) (by have:=HG.out.len;omega) rfl hok);generalize hv1 X.T X.pos X.m b=zb at *;unfold pointV at QSb;clear hz e6 HPb hok hha hhb hka hsm hsz hszA hW QR0 HRc HZr HKa HKb;have HX16:=hi_ (HX.out.below HK16.out.D);obtain⟨⟨c0,c1,Dc0,Dc1⟩,⟨a0,a1,Da0,Da1⟩,⟨b0,b1,Db0,Db1⟩,⟨p0,p1,Dp0,Dp1⟩,⟨q0,q1,Dq0,Dq1⟩,y0,Dy0⟩:=HK16.out.cells HX16.out.blk;dsimp only[SMem.one]at y0 Dy0;go_wp2_with fail
     refine wp_region_later (by kernel_rfl) (by kernel_rfl) ?_;repeat (go_big_quiet_step ((go_at_call 18;exact Calls.later (QSb.out _ (HX16.out.below (Later.h _)).tree (HK16.out.S.below (Later.h _))))))
     refine wq_ (fun dq=>?_);have HK17:=hi_ (HK16.out.below dq.h);clear Dc0 Dc1 Da0 Da1 Db0 Db1 Dp0 Dp1 Dq0 Dq1 Dy0 a0 a1 b0 b1 p0 p1 q0 q1 c0 c1 y0;clear HK16;generalize dq.w=w17 at *;clear dq;have QRg:=hi_ (range_one w4.heap.size ao cap ⟨1,za,(i:Nat),za,(i:Nat)⟩ w17 HK17.out.S rfl);unfold rgV at QRg;go_wp2_with fail
     refine QRg.out.mono ?_;rintro e w18 ⟨rfl,hbr⟩;have HK18:=hi_ (HK17.out.below hbr);clear HK17;clear hbr QRg;go_upto_region 19 with fail
     have hbn:=(Below.refl w18.heap.size w18).alloc (Nat.le_refl _) (.cells #[.int .i64 1,.int .i64 za,.int .i64 (i:Nat),.int .i64 za,.int .i64 (i:Nat)] 54);have HR19:=hi_ (Blk.new w18 #[.int .i64 1,.int .i64 za,.int .i64 (i:Nat),.int .i64 za,.int .i64 (i:Nat)] 54);have HK19:=hi_ (HK18.out.below hbn);clear HK18;clear hbn;generalize w18.alloc (.cells #[.int .i64 1,.int .i64 za,.int .i64 (i:Nat),.int .i64 za,.int .i64 (i:Nat)] 54)=w19 at *;have HX19:=hi_ (HX.out.below HK19.out.D);obtain⟨⟨c0,c1,Dc0,Dc1⟩,⟨a0,a1,Da0,Da1⟩,⟨b0,b1,Db0,Db1⟩,⟨p0,p1,Dp0,Dp1⟩,⟨q0,q1,Dq0,Dq1⟩,y0,Dy0⟩:=HK19.out.cells HX19.out.blk;dsimp only[SMem.one]at y0 Dy0;go_wp2_with fail
     refine(QV.out w19 HX19.out.tree HK19.out.S).mono ?_;rintro e w20 ⟨rfl,hbv⟩;have HK20:=hi_ (HK19.out.below hbv);have HR20:=hi_ (HR19.out.below hbv);clear Dc0 Dc1 Da0 Da1 Db0 Db1 Dp0 Dp1 Dq0 Dq1 Dy0 a0 a1 b0 b1 p0 p1 q0 q1 c0 c1 y0;clear HK19;clear HR19 hbv;have HX20:=hi_ (HX.out.below HK20.out.D);obtain⟨⟨c0,c1,Dc0,Dc1⟩,⟨a0,a1,Da0,Da1⟩,⟨b0,b1,Db0,Db1⟩,⟨p0,p1,Dp0,Dp1⟩,⟨q0,q1,Dq0,Dq1⟩,y0,Dy0⟩:=HK20.out.cells HX20.out.blk;dsimp only[SMem.one]at y0 Dy0;go_wp2_with fail
     refine wp_region_later (by kernel_rfl) (by kernel_rfl) ?_;repeat (go_big_quiet_step ((go_at_call 14;exact Calls.later_same (QH2.out _ ((HX20.out.below (Later.h _)).model)))))
     refine wq_ (fun dq=>?_);have HK21:=hi_ (HK20.out.below dq.h);have HR21:=hi_ (HR20.out.below dq.h);clear Dc0 Dc1 Da0 Da1 Db0 Db1 Dp0 Dp1 Dq0 Dq1 Dy0 a0 a1 b0 b1 p0 p1 q0 q1 c0 c1 y0;clear HK20;clear HR20;generalize dq.w=w21 at *;clear dq;obtain⟨p0,p1⟩:=cells2 HK21.out.P;obtain⟨q0,q1⟩:=cells2 HK21.out.Q;obtain⟨⟨r0,r1,r2,r3,r4⟩,_⟩:=cells5 HR21.out;have HWk:=bt_ HW4 HK21.out.D;go_wp2_with fail
     go_ret
     exact⟨rfl,HWk.out⟩
    |true=>
     have hz:hv1 X.T X.pos X.m b=hd X.T X.pos b:=hv1_of hhb;have hkb:=HKb.out hhb;have hszB:=hsz b;rw[hz];rw[hz]at HK16;rw[hhb]at QH2;obtain⟨zb,hzb⟩:∃zb,zb=hd X.T X.pos b:=⟨_,rfl⟩;have HZb:=hi_ hzb;obtain⟨R,hR⟩:∃R,R=movedStart X.m (b,j) (a,i) zb (j:Nat) ⟨1,za,(i:Nat),za,(i:Nat)⟩:=⟨_,rfl⟩;have hrid:R.id=1:=by rw[hR];exact start_id _ _ _ _ _ _
     have hok:RgOk X.T X.m X.pos R:=by rw[hR,HZa.out,HZb.out];exact start_ok HX.out.tree.fits hha hhb hka hkb
     have hfar:=start_far (T:=X.T) (m:=X.m) (pos:=X.pos) (a:=a) (b:=b) (i:=i) (j:=j);have hnear:=start_near (i:=i) (j:=j) HX.out.tree.fits hha hhb hka hkb;rw[<-HZa.out,<-HZb.out,<-hR]at hfar hnear;have HFar:=hi_ hfar;have HNear:=hi_ hnear;have QSg:=hi_ (fun W (hT:TreeIs W X.T X.m X.pos) (hS:SetMem W (SMem.one w4.heap.size ao cap ⟨1,za,(i:Nat),za,(i:Nat)⟩))=>setStart_one X.T X.m X.pos w4.heap.size ao cap _ (b,j) (a,i) W hT hS hsm rfl hhb hkb (by show j<=_;omega) hha hka (by show i<=_;omega) HZa.out rfl);rw[<-HZb.out,<-hR]at QSg;obtain⟨rid,s1,k1,e1,l1⟩:=R;dsimp only at hrid;subst hrid
     have QV:=hi_ (fun W (hT:TreeIs W X.T X.m X.pos) (hS:SetMem W (SMem.one w4.heap.size ao cap ⟨1,s1,k1,e1,l1⟩))=>valid_one X.T X.m X.pos w4.heap.size ao cap _ W hT hS HG.out.whole (fun x=>by have:=HG.out.attrs x;omega) (by have:=HG.out.len;omega) rfl hok);rw[<-hzb]at HK16 ⊢;unfold pointV at QSg;clear hz hzb hR hok hfar hnear HPb hka hkb hszA hszB hsm hsz hW HKa HKb;have HX16:=hi_ (HX.out.below HK16.out.D);obtain⟨⟨c0,c1,Dc0,Dc1⟩,⟨a0,a1,Da0,Da1⟩,⟨b0,b1,Db0,Db1⟩,⟨p0,p1,Dp0,Dp1⟩,⟨q0,q1,Dq0,Dq1⟩,y0,Dy0⟩:=HK16.out.cells HX16.out.blk;dsimp only[SMem.one]at y0 Dy0;go_wp2_with fail
     refine wp_region_mid 6 _ _ (by kernel_rfl) (by kernel_rfl) rfl ?_;simp only[List.take_succ_cons,List.take_zero];repeat (go_big_quiet_step (fail))
     refine wq_ (fun dq=>?_);intro K hK;have HK17:=hi_ (HK16.out.below dq.h);clear Dc0 Dc1 Da0 Da1 Db0 Db1 Dp0 Dp1 Dq0 Dq1 Dy0 a0 a1 b0 b1 p0 p1 q0 q1 c0 c1 y0;clear HK16;generalize dq.w=w17 at *;clear dq;go_simp
     go_at_call 18
     refine(QSg.out w17 (HX.out.below HK17.out.D).tree HK17.out.S).mono ?_;rintro e w18 ⟨rfl,hf,hs⟩;have HK18:=hi_ (HK17.out.frame hf hs (HLo.out _));clear hf hs;clear HK17;go_simp
     refine hK _ _ (midQ_normal ?_);clear hK K;repeat (go_big_quiet_step (fail))
     refine wq_ (fun dq=>?_);have HK19:=hi_ (HK18.out.below dq.h);clear HK18;generalize dq.w=w19 at *;clear dq;have QRg:=hi_ (range_one w4.heap.size ao cap ⟨1,s1,k1,e1,l1⟩ w19 HK19.out.S rfl);unfold rgV at QRg;go_wp2_with fail
     refine QRg.out.mono ?_;rintro e w20 ⟨rfl,hbr⟩;have HK20:=hi_ (HK19.out.below hbr);clear HK19;clear hbr QRg;go_upto_region 19 with fail
     have hbn:=(Below.refl w20.heap.size w20).alloc (Nat.le_refl _) (.cells #[.int .i64 1,.int .i64 s1,.int .i64 k1,.int .i64 e1,.int .i64 l1] 54);have HR21:=hi_ (Blk.new w20 #[.int .i64 1,.int .i64 s1,.int .i64 k1,.int .i64 e1,.int .i64 l1] 54);have HK21:=hi_ (HK20.out.below hbn);clear HK20;clear hbn;generalize w20.alloc (.cells #[.int .i64 1,.int .i64 s1,.int .i64 k1,.int .i64 e1,.int .i64 l1] 54)=w21 at *;have HX21:=hi_ (HX.out.below HK21.out.D);obtain⟨⟨c0,c1,Dc0,Dc1⟩,⟨a0,a1,Da0,Da1⟩,⟨b0,b1,Db0,Db1⟩,⟨p0,p1,Dp0,Dp1⟩,⟨q0,q1,Dq0,Dq1⟩,y0,Dy0⟩:=HK21.out.cells HX21.out.blk;dsimp only[SMem.one]at y0 Dy0;go_wp2_with fail
     refine(QV.out w21 HX21.out.tree HK21.out.S).mono ?_;rintro e w22 ⟨rfl,hbv⟩;have HK22:=hi_ (HK21.out.below hbv);have HR22:=hi_ (HR21.out.below hbv);clear Dc0 Dc1 Da0 Da1 Db0 Db1 Dp0 Dp1 Dq0 Dq1 Dy0 a0 a1 b0 b1 p0 p1 q0 q1 c0 c1 y0;clear HK21;clear HR21 hbv;have HX22:=hi_ (HX.out.below HK22.out.D);obtain⟨⟨c0,c1,Dc0,Dc1⟩,⟨a0,a1,Da0,Da1⟩,⟨b0,b1,Db0,Db1⟩,⟨p0,p1,Dp0,Dp1⟩,⟨q0,q1,Dq0,Dq1⟩,y0,Dy0⟩:=HK22.out.cells HX22.out.blk;dsimp only[SMem.one]at y0 Dy0;go_wp2_with fail
     refine wp_region_later (by kernel_rfl) (by kernel_rfl) ?_;repeat (go_big_quiet_step ((go_at_call 14;exact Calls.later_same (QH2.out _ ((HX22.out.below (Later.h _)).model)))))
     refine wq_ (fun dq=>?_);have HK23:=hi_ (HK22.out.below dq.h);have HR23:=hi_ (HR22.out.below dq.h);clear Dc0 Dc1 Da0 Da1 Db0 Db1 Dp0 Dp1 Dq0 Dq1 Dy0 a0 a1 b0 b1 p0 p1 q0 q1 c0 c1 y0;clear HK22;clear HR22;generalize dq.w=w23 at *;clear dq
     by_cases ht:top X.m b=top X.m a
     ·have QR:=hi_ (fun W (hM:ModelMem W X.M)=>QR0.out W hM hha hhb ht)
      rw[<-HRc.out hha hhb ht]at QR;have HNr:=hi_ (HNear.out ht);have te2:(((top X.m a:Nat):Int)==((top X.m b:Nat):Int))=true:=by rw[ht];exact beq_self_eq_true _
      have te3:(((top X.m a:Nat):Int) != ((top X.m b:Nat):Int))=false:=by rw[ht];simp
      generalize top X.m a=t at *;generalize top X.m b=t2 at *;generalize lcmp X.m (b,j) (a,i)=lc at *;clear QR0 HRc HZr hha hhb ht HFar HNear;have HX23:=hi_ (HX.out.below HK23.out.D);obtain⟨⟨c0,c1,Dc0,Dc1⟩,⟨a0,a1,Da0,Da1⟩,⟨b0,b1,Db0,Db1⟩,⟨p0,p1,Dp0,Dp1⟩,⟨q0,q1,Dq0,Dq1⟩,y0,Dy0⟩:=HK23.out.cells HX23.out.blk;dsimp only[SMem.one]at y0 Dy0;go_wp2_with fail
      refine wp_region_later (by kernel_rfl) (by kernel_rfl) ?_;repeat (go_big_quiet_step ((first|(go_at_call_of 15 (Value.int .i64 ((a:Nat):Int));with_reducible exact Calls.later_same (QT1.out _ ((HX23.out.below (Later.h _)).model)))|(go_at_call 15;with_reducible exact Calls.later_same (QT2.out _ ((HX23.out.below (Later.h _)).model))))))
      refine wq_ (fun dq=>?_);have HK24:=hi_ (HK23.out.below dq.h);have HR24:=hi_ (HR23.out.below dq.h);clear Dc0 Dc1 Da0 Da1 Db0 Db1 Dp0 Dp1 Dq0 Dq1 Dy0 a0 a1 b0 b1 p0 p1 q0 q1 c0 c1 y0;clear HK23;clear HR23;generalize dq.w=w24 at *;clear dq;have HX24:=hi_ (HX.out.below HK24.out.D);obtain⟨⟨c0,c1,Dc0,Dc1⟩,⟨a0,a1,Da0,Da1⟩,⟨b0,b1,Db0,Db1⟩,⟨p0,p1,Dp0,Dp1⟩,⟨q0,q1,Dq0,Dq1⟩,y0,Dy0⟩:=HK24.out.cells HX24.out.blk;dsimp only[SMem.one]at y0 Dy0;go_wp2_with fail
      refine wp_region_later (by kernel_rfl) (by kernel_rfl) ?_;repeat (go_big_quiet_step ((go_at_call 16;exact Calls.later (QR.out _ ((HX24.out.below (Later.h _)).model)))))
      refine wq_ (fun dq=>?_);have HK25:=hi_ (HK24.out.below dq.h);have HR25:=hi_ (HR24.out.below dq.h);clear Dc0 Dc1 Da0 Da1 Db0 Db1 Dp0 Dp1 Dq0 Dq1 Dy0 a0 a1 b0 b1 p0 p1 q0 q1 c0 c1 y0;clear HK24;clear HR24;generalize dq.w=w25 at *;clear dq
      rcases HNr.out with⟨hc,hm⟩|⟨hc,hb',hj,hm⟩|⟨hc,hne,hm⟩
      ·injection hm with m1 m2 m3 m4 m5
       rw[m2,m3,m4,m5]at HR25;subst hc;clear m1 m2 m3 m4 m5 HNr;obtain⟨p0,p1⟩:=cells2 HK25.out.P;obtain⟨q0,q1⟩:=cells2 HK25.out.Q;obtain⟨⟨r0,r1,r2,r3,r4⟩,_⟩:=cells5 HR25.out;have HWk:=bt_ HW4 HK25.out.D;go_wp2_with fail
       go_ret
       exact⟨rfl,HWk.out⟩
      ·injection hm with m1 m2 m3 m4 m5
       have hzz:zb=za:=by rw[HZb.out,HZa.out,hb']
       rw[m2,m3,m4,m5]at HR25;rw[hzz,hj]at HK25;subst hc;clear m1 m2 m3 m4 m5 HNr hzz hj hb';obtain⟨p0,p1⟩:=cells2 HK25.out.P;obtain⟨q0,q1⟩:=cells2 HK25.out.Q;obtain⟨⟨r0,r1,r2,r3,r4⟩,_⟩:=cells5 HR25.out;have HWk:=bt_ HW4 HK25.out.D;go_wp2_with fail
       go_ret
       exact⟨rfl,HWk.out⟩
      ·injection hm with m1 m2 m3 m4 m5
       rw[m2,m3,m4,m5]at HR25;subst hc;clear m1 m2 m3 m4 m5 HNr
       by_cases hzz:za=zb
       ·have hij:=hne.resolve_left (fun h=>h hzz)
        have i1:((i:Int)==(j:Int))=false:=beq_eq_false_iff_ne.2 hij;have i2:¬(i:Int)=(j:Int):=hij;have i3:((j:Int)==(i:Int))=false:=beq_eq_false_iff_ne.2 (fun h=>hij h.symm);have i4:¬(j:Int)=(i:Int):=fun h=>hij h.symm;rw[<-hzz]at HK25 HR25;clear hne hij hzz;obtain⟨p0,p1⟩:=cells2 HK25.out.P;obtain⟨q0,q1⟩:=cells2 HK25.out.Q;obtain⟨⟨r0,r1,r2,r3,r4⟩,_⟩:=cells5 HR25.out;have HWk:=bt_ HW4 HK25.out.D;go_wp2_with fail
        go_ret
        exact⟨rfl,HWk.out⟩
       ·have z1:(za==zb)=false:=beq_eq_false_iff_ne.2 hzz
        have z3:(zb==za)=false:=beq_eq_false_iff_ne.2 (fun h=>hzz h.symm);have z4:¬zb=za:=fun h=>hzz h.symm;clear hne;obtain⟨p0,p1⟩:=cells2 HK25.out.P;obtain⟨q0,q1⟩:=cells2 HK25.out.Q;obtain⟨⟨r0,r1,r2,r3,r4⟩,_⟩:=cells5 HR25.out;have HWk:=bt_ HW4 HK25.out.D;go_wp2_with fail
        go_ret
        exact⟨rfl,HWk.out⟩
     ·have hm:=HFar.out ht
      injection hm with m1 m2 m3 m4 m5
      rw[m2,m3,m4,m5]at HR23;clear m2 m3 m4 m5;have hne:¬((top X.m a:Nat):Int)=((top X.m b:Nat):Int):=by omega
      have hne2:(((top X.m a:Nat):Int)==((top X.m b:Nat):Int))=false:=beq_eq_false_iff_ne.2 hne;have hne3:(((top X.m a:Nat):Int) != ((top X.m b:Nat):Int))=true:=bne_iff_ne.2 hne;generalize top X.m a=t at *;generalize top X.m b=t2 at *;clear QR0 HRc HZr hha hhb ht HFar HNear m1;have HX23:=hi_ (HX.out.below HK23.out.D);obtain⟨⟨c0,c1,Dc0,Dc1⟩,⟨a0,a1,Da0,Da1⟩,⟨b0,b1,Db0,Db1⟩,⟨p0,p1,Dp0,Dp1⟩,⟨q0,q1,Dq0,Dq1⟩,y0,Dy0⟩:=HK23.out.cells HX23.out.blk;dsimp only[SMem.one]at y0 Dy0;go_wp2_with fail
      refine wp_region_later (by kernel_rfl) (by kernel_rfl) ?_;repeat (go_big_quiet_step ((first|(go_at_call_of 15 (Value.int .i64 ((a:Nat):Int));with_reducible exact Calls.later_same (QT1.out _ ((HX23.out.below (Later.h _)).model)))|(go_at_call 15;with_reducible exact Calls.later_same (QT2.out _ ((HX23.out.below (Later.h _)).model))))))
      refine wq_ (fun dq=>?_);have HK24:=hi_ (HK23.out.below dq.h);have HR24:=hi_ (HR23.out.below dq.h);clear Dc0 Dc1 Da0 Da1 Db0 Db1 Dp0 Dp1 Dq0 Dq1 Dy0 a0 a1 b0 b1 p0 p1 q0 q1 c0 c1 y0;clear HK23;clear HR23;generalize dq.w=w24 at *;clear dq;obtain⟨p0,p1⟩:=cells2 HK24.out.P;obtain⟨q0,q1⟩:=cells2 HK24.out.Q;obtain⟨⟨r0,r1,r2,r3,r4⟩,_⟩:=cells5 HR24.out;have HWk:=bt_ HW4 HK24.out.D;go_wp2_with fail
      go_ret
      exact⟨rfl,HWk.out⟩
end A
end
end Go.Proofs.YtinphfpdfodkkaaGreatDoor
