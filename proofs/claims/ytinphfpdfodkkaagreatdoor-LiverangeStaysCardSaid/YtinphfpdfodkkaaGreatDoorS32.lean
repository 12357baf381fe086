/- Texts. -/
import Derived.Test.YtinphfpdfodkkaaGreatDoorS30
set_option linter.unusedVariables false
set_option linter.unusedSimpArgs false
set_option maxHeartbeats 8000000
set_option maxRecDepth 100000
namespace Go.Proofs.YtinphfpdfodkkaaGreatDoor
section
open Go.RowKit Go.Sort
namespace A
open H G R
theorem zq_{l l2:List Rec}(h:eB_ l l2):l.length=l2.length/\∀i(h1:i<l.length)(h2:i<l2.length),∃od hb,l2[i]={l[i] with old:=od,had:=hb}:=by
 obtain⟨h,nm,o1,b1,o2,b2,rfl,rfl,hn⟩:=h;refine⟨rfl,fun i h1 h2=>⟨o2,b2,?_⟩⟩;obtain rfl:i=0:=by simpa using h1
 rfl
theorem oU_{lim:Option Nat}{m:aa_}{o:G.Op}(hk:o.kind % 10=5):G.step lim m o=if has m (o.at_ m)=false then([],6,m)else az_ lim m (o.at_ m) o.s o.t:=by
 unfold G.step;rw[if_neg (by omega),if_neg (by omega)]
 split
 ·rfl
 repeat (first|rfl|rw[if_pos hk]|rw[if_neg (by omega)])
theorem fE_{lim:Option Nat}{m:aa_}{h:Nat}{a b:G.Bytes}:(az_ lim m h a b).1.length<=2/\(az_ lim m h a b).2.1<=10:=by
 unfold az_
 split
 ·simp
 split
 ·simp
 split
 ·simp
 split<;>simp
theorem sa_has{lim:Option Nat}{m:aa_}{h:Nat}{a b:G.Bytes}(hh:has m h=true):∀r,r∈(az_ lim m h a b).1->cu_ m r:=by
 have key:∀nm old b,cu_ m (aM_ h nm old b):=fun nm old b=>⟨hh,fun i e=>(by cases e),fun i e=>(by cases e),fun i e=>(by cases e)⟩;unfold az_
 split
 ·intro r hr;cases hr
 split
 ·intro r hr;cases hr
 split
 ·intro r hr;rw[List.mem_singleton.1 hr];exact key _ _ _
 split
 ·intro r hr;cases hr
 intro r hr;rw[List.mem_singleton.1 hr];exact key _ _ _
theorem do5(w0 w:World)(X:Tw)(o:G.Op)(k:Nat)(h:bu_ w0 w X)(hF:Fit w0 X o k)(hk:o.kind % 10=5) :
  Calls Tryz.prog 24 #[.pointer (some ⟨X.tb,0,none⟩),opV o] w fun e w'=>jB_ w0 w X o e w':=by
 have hl:=h.pos_len;obtain⟨e1,e2,e3,n1,n2,n3,q1,q2⟩:=cv_ o hl hF.few hF.u8 X.m rfl;have HOV:=ds_ o;rw[HOV.o];have ek:Int.tmod (o.kind:Int) 10=5:=by rw[show(10:Int)=((10:Nat):Int)from rfl,<-Int.ofNat_tmod,hk];rfl
 obtain⟨hb1,HO1,HN0⟩:=dr_ w o;have H1:=hi_ (h.below hb1);have HB1:=hi_ hb1;obtain⟨g,cap,hv,_,hcap,_⟩:=h.toMid.cells hl;have HF:=hi_ hF;obtain⟨⟨ha1,ha2,ha3,hfw⟩,⟨wa1,wa2,wa3⟩,wn1,wc1,hn0,hn00,hn1,hn11⟩:=bZ_ hF hl;have hgT:X.T.g<w.heap.size:=bG_ h.tree.mem (Or.inr (Or.inl rfl));have hs40:=hF.s40;have ht40:=hF.t40;have hn8:=hF.n8;have hk8:=hF.k8;clear hb1 HOV
 go_enter Tryz.func24,Tryz.ntmps24
 obtain⟨c0,c1,c2,hlt⟩:=cells3 H1.o.blk;obtain⟨o0,o1,o2,o3,o4,o5,o6,o7⟩:=bf_ HO1.o;have hlo:=HO1.o.lt;rw[hv]at c2;go_upto_region 2 with fail
 go_quiet (fail)
 rw[kC_ rfl hfw];have H2:=hi_ (H1.o.below (bdN (br_) nq));have HO2:=hi_ (HO1.o.below (bdN (br_) nq));have HB2:=hi_ (bdN HB1.o nq);have HN2:=hi_ (HN0.o nq);clear HN0;clear H1 HO1 HB1 c0 c1 c2 hlt o0 o1 o2 o3 o4 o5 o6 o7 hlo;generalize (w.alloc (.cells #[.int .u8 o.kind,.int .u8 o.a,.int .u8 o.b,.int .u8 o.c,.string ⟨o.s.toArray⟩,.string ⟨o.t.toArray⟩,.int .i8 o.n,.int .i8 o.k] 65)).drewN nq=w2 at *;obtain⟨c0,c1,c2,hlt⟩:=cells3 H2.o.blk;obtain⟨o0,o1,o2,o3,o4,o5,o6,o7⟩:=bf_ HO2.o;have hlo:=HO2.o.lt;rw[hv]at c2;have QH:=hi_ (fun(i:Nat) W (hb:Below w2.heap.size w2 W)=>hv_ X.M i W (H2.o.model.below hb));have HSm:=hi_ h.sim;have HV:=hi_ hv;have hst1:=oU_ (lim:=some 64) (m:=X.m) hk;have hst2:=oU_ (lim:=none) (m:=X.M.m) (o:=o) hk
 have hat:o.at_ X.M.m=o.at_ X.m:=by unfold Op.at_;rw[h.sim.len]
 rw[hat,<-h.sim.has]at hst2;obtain⟨a,ha⟩:∃a,a=o.at_ X.m:=⟨_,rfl⟩;rw[<-ha]at hst1 hst2 n1 ⊢;have HSt1:=hi_ hst1;have HSt2:=hi_ hst2;clear hst1 hst2 hat ha h hF e1 e2 e3 wa1 wa2 wa3 wn1 wc1 hn0 hn00 hn1 hn11 q1 q2;go_wp2_with fail
 refine(QH.o a w2 (br_)).mono ?_;rintro e w2' ⟨rfl,rfl⟩;rw[<-HSm.o.has];have hz:=H2.o.toMid.get hv n1;have hgl:=hz.2.2;have hai:(a:Int)<(X.m.length:Int):=by omega
 have ha0:(0:Int)<=(a:Int):=by omega
 have D0:=lc_ c0 hlt;have D2:=lc_ c2 hlt;have P4:=lc_ o4 hlo;have P5:=lc_ o5 hlo;have P6:=lc_ o6 hlo;have P7:=lc_ o7 hlo
 cases hha:has X.m a with
 |false=>
  rw[bX_ hha]at hz;have DZ:=fun d:Later w2.heap.size w2=>Later.cell hz.1 hgl d;have HR1:Hd (G.step (some 64) X.m o=([],6,X.m)):=hi_ (by rw[HSt1.o,if_pos hha]);have HR2:Hd (G.step none X.M.m o=([],6,X.M.m)):=hi_ (by rw[HSt2.o,if_pos hha]);have QN:=hi_ (fun W (hb:Below w2.heap.size w2 W)=>hU_ X.T (-1) o.s o.t W (H2.o.below hb).tree.mem (by omega) (by omega) (cm_ H2.o.tree.fits 1));clear hha;go_upto_region 49 with fail
  refine ao_ 15 _ _ (by kernel_rfl) (by kernel_rfl) rfl ?_;simp only[List.take_succ_cons,List.take_zero];repeat (go_big_quiet_step (fail))
  refine wq_ (fun dq=>?_);intro K hK;have HD3:=hi_ dq.h;clear D0 D2 DZ P4 P5 P6 P7;generalize dq.w=w3 at *;go_simp
  go_at_call 65
  refine(QN.o w3 HD3.o).mono ?_;rintro e w4 ⟨rfl,hb4⟩;have HB4:=bt_ HD3 hb4;go_simp
  refine hK _ _ (as_ ?_);clear hK K;repeat (go_big_quiet_step (fail))
  refine wq_ (fun dq=>?_);have HB5:=bt_ HB4 dq.h;generalize dq.w=w5 at *;go_wp2_with fail
  refine bodyPost_ret (v:=.tuple #[.slice none 0 0,.bool true]) (by simp[results,Tryz.results24,go_sem]) rfl ⟨_,_,X,rfl,H2.o.below HB5.o,rfl,rfl,rfl,(fun _ _=>rfl),by rw[HR1.o],by rw[HR2.o],by rw[HR1.o];exact aD_.nil _ _ _ _,fun _ _=>rfl⟩
 |true=>
  rw[da_ hha]at hz;have DZ:=fun d:Later w2.heap.size w2=>Later.cell hz.1 hgl d;have HR1:Hd (G.step (some 64) X.m o=az_ (some 64) X.m a o.s o.t):=hi_ (by rw[HSt1.o,if_neg (by rw[hha];simp)]);have HR2:Hd (G.step none X.M.m o=az_ none X.M.m a o.s o.t):=hi_ (by rw[HSt2.o,if_neg (by rw[hha];simp)]);have HRh:Hd (∀r,r∈(G.step (some 64) X.m o).1->cu_ X.m r):=hi_ (by rw[HR1.o];exact sa_has hha);have QN:=hi_ (fun W (hb:Below w2.heap.size w2 W)=>nJ_ X.T X.m X.pos a o.s o.t W (H2.o.below hb).tree hha (by have h1:(nd X.m a).attrs.length<=2+k:=(HF.o.ok1 a).1;have:=HF.o.k200;omega) (by omega) (by omega) (HF.o.tabs.below (H2.o.below hb).bel))
  have QM:=hi_ (fun W (hM:ac_ W X.M)=>n3_ X.M a o.s o.t W hM (by rw[<-X.M.m_len,<-HSm.o.len];exact n1) (by have h1:(nd X.M.m a).attrs.length<=2+k:=(HF.o.ok2 a).1;have:=HF.o.k200;omega) (by omega) (by omega));rw[<-HR1.o]at QN;rw[<-HR2.o]at QM;have HHas:=hi_ hha;have hl1:(G.step (some 64) X.m o).1.length<=2:=by rw[HR1.o];exact fE_.1
  have hl2:(G.step none X.M.m o).1.length<=2:=by rw[HR2.o];exact fE_.1
  have he1:(G.step (some 64) X.m o).2.1<=10:=by rw[HR1.o];exact fE_.2
  have he2:(G.step none X.M.m o).2.1<=10:=by rw[HR2.o];exact fE_.2
  clear hha HSt1 HSt2 HR1 HR2;go_upto_region 49 with fail
  refine ao_ 15 _ _ (by kernel_rfl) (by kernel_rfl) rfl ?_;simp only[List.take_succ_cons,List.take_zero];repeat (go_big_quiet_step (fail))
  refine wq_ (fun dq=>?_);intro K hK;have HD3:=hi_ dq.h;clear D0 D2 DZ P4 P5 P6 P7;generalize dq.w=w3 at *;go_simp
  go_at_call 65
  refine(QN.o w3 HD3.o).mono ?_;rintro e w4 ⟨v4,T4,rfl,hf4,hl4,ht4,hr4⟩;have H3:=hi_ (H2.o.below HD3.o);have HP4:=hi_ (⟨hf4,hl4,ht4,hr4⟩:_/\_/\_/\_);have HO4:=hi_ ((HO2.o.below HD3.o).frame hf4 (show ¬w.heap.size=X.T.g by omega));have HM4:=hi_ (H3.o.mid (hf4.wide (fun k hk=>Or.inr (Or.inl hk))));have hv4s:=ab_.slice hr4;obtain⟨ao4,cap4,rfl⟩:=hv4s;clear hf4 hl4 ht4 hr4 QN;go_simp
  refine hK _ _ (as_ ?_);clear hK K;repeat (go_big_quiet_step (fail))
  refine wq_ (fun dq=>?_);have HD5:=hi_ dq.h;generalize dq.w=w5 at *;have HM5:=hi_ (HM4.o.below HD5.o);obtain⟨c0',c1',c2',hlt'⟩:=cells3 HM5.o.blk;rw[HV.o]at c2';have HO5:=hi_ (HO4.o.below HD5.o);obtain⟨_,_,_,_,r4,r5,r6,r7⟩:=bf_ HO5.o;have hlo5:=HO5.o.lt;have P0:=lc_ r4 hlo5;have P1:=lc_ r5 hlo5;have P2:=lc_ r6 hlo5;have P3:=lc_ r7 hlo5;go_upto_region 53 with fail
  have E1:=fun d:Later w5.heap.size w5=>Later.cell c1' hlt' d;refine ao_ 9 _ _ (by kernel_rfl) (by kernel_rfl) rfl ?_;simp only[List.take_succ_cons,List.take_zero];repeat (go_big_quiet_step (fail))
  refine wq_ (fun dq=>?_);intro K hK;have HD55:=bt_ HD5 dq.h;have HM55:=hi_ (HM5.o.below dq.h);clear E1 P0 P1 P2 P3;generalize dq.w=w55 at *;go_simp
  go_at_call 66
  refine(QM.o w55 HM55.o.model).mono ?_;rintro e w66 ⟨v6,M6,rfl,hf6,hm6,hme6,hl6,hr6⟩;have HP6:=hi_ (⟨hf6,hm6,hme6,hl6,hr6⟩:_/\_/\_/\_/\_);have hv6t:=ab_.slice hr6;obtain⟨ao6,cap6,rfl⟩:=hv6t;clear hf6 hm6 hme6 hl6 hr6;go_simp
  refine hK _ _ (as_ ?_);clear hK K;repeat (go_big_quiet_step (fail))
  refine wq_ (fun dq=>?_);have HD6:=hi_ dq.h;generalize dq.w=w6 at *;have hf6:=HP6.o.1.below_ HD6.o;have hm6:=HP6.o.2.1.below HD6.o;have hme6:=HP6.o.2.2.1;have hl6:=HP6.o.2.2.2.1;have hr6:=own_below HP6.o.2.2.2.2 HD6.o;change aI_ _ w6 _ _ at hr6;clear HP6 HD6 HM5 HD5;have HD5:=HD55;have HM5:=HM55;clear HD55 HM55;have HN:=hi_ (fd_ HF.o H3.o (Nat.le_trans HB2.o.size HD3.o.size) HP4.o.1 HP4.o.2.1 HP4.o.2.2.1 HP4.o.2.2.2 HD5.o hf6 hm6 hme6 hl6 (by omega));have HLk:=hi_ HP4.o.2.1;have HMe:=hi_ hme6;have HRc6:=hi_ hr6;have HPo:=hi_ (fun w7 b (hb:Below w6.heap.size w6 w7) hbb=>fc_ (w:=w) (w7:=w7) (b:=b) HN.o HLk.o HMe.o hb hbb);have HAg:=hi_ HF.o.agree;have HKg:=hi_ (fun i=>(cG_ (lim:=some 64) (m:=X.m) (o:=o) (by omega)).has i)
  have hml:0<({ X with T:=T4,m:=(G.step (some 64) X.m o).2.2,pos:=X.pos,M:=M6 }:Tw).m.length:=HN.o.1.pos_len;have QS:=hi_ (fun(hq:(G.step (some 64) X.m o).1=(G.step none X.M.m o).1)=>cx_ HN.o.1.toMid hml (G.step (some 64) X.m o).1 _ _ _ _ HN.o.2 (by rw[hq];exact HRc6.o) (by omega) (fun r hr=>by
   obtain⟨h1,h2,h3,h4⟩:=HRh.o r hr;have hk:=HKg.o;exact⟨(hk _).trans h1,fun i e=>(hk _).trans (h2 i e),fun i e=>(hk _).trans (h3 i e),fun i e=>(hk _).trans (h4 i e)⟩))
  have QY:=hi_ (fun(hq:(G.step (some 64) X.m o).1.length≠(G.step none X.M.m o).1.length)=>dv_ HN.o.1.toMid hml T4 X.pos _ _ _ _ _ _ HN.o.2 HRc6.o hq (by omega) (by omega));have QA:=hi_ (fun(hq:eB_ (G.step (some 64) X.m o).1 (G.step none X.M.m o).1)=>f2_ HN.o.1.toMid hml _ _ _ _ _ _ HN.o.2 HRc6.o (zq_ hq).1 (by omega) (zq_ hq).2 (fun r hr=>by
   obtain⟨h1,h2,h3,h4⟩:=HRh.o r hr;have hk:=HKg.o;exact⟨(hk _).trans h1,fun i e=>(hk _).trans (h2 i e),fun i e=>(hk _).trans (h3 i e),fun i e=>(hk _).trans (h4 i e)⟩))
  clear hf6 hm6 hme6 hl6 hr6 QM HP4 HM4 HM5 HD5 HD3 H3 c0' c1' c2' hlt' HRh HKg hml;have HQl:=hi_ (fun(e:(G.step (some 64) X.m o).1=(G.step none X.M.m o).1)=>congrArg List.length e);generalize (G.step (some 64) X.m o).1.length=n4 at *;generalize (G.step none X.M.m o).1.length=n6 at *;generalize hz1:(G.step (some 64) X.m o).2.1=z1 at *;generalize hz2:(G.step none X.M.m o).2.1=z2 at *
  by_cases he:z1=z2
  ·subst he
   rcases HAg.o with(hq|hq|hq)|hq
   ·have Q:=hi_ (QS.o hq)
    clear QS QY QA;go_wp2_with fail
    refine Q.o.mono ?_;rintro e w7 ⟨rfl,hb7⟩;have HP:=hi_ (HPo.o w7 true hb7 (fun _ _=>rfl));clear hb7 Q HPo;go_wp2_with fail
    exact bodyPost_ret (v:=.tuple #[.slice ao4 n4 cap4,.bool true]) (by simp[results,Tryz.results24,go_sem]) rfl HP.o
   ·have Q:=hi_ (QY.o hq)
    have HP:=hi_ (fun w7 (hb:Below w6.heap.size w6 w7)=>HPo.o w7 false hb (fun e _=>absurd (HQl.o e) hq));clear QS QY QA HPo;go_wp2_with fail
    refine Q.o.mono ?_;rintro e w7 ⟨rfl,hb7⟩;have HP7:=hi_ (HP.o w7 hb7);clear hb7 Q HP;go_wp2_with fail
    exact bodyPost_ret (v:=.tuple #[.slice ao4 n4 cap4,.bool false]) (by simp[results,Tryz.results24,go_sem]) rfl HP7.o
   ·exact absurd rfl hq
   have Q:=hi_ (QA.o hq.2);have HP:=hi_ (fun w7 b (hb:Below w6.heap.size w6 w7)=>HPo.o w7 b hb (fun e _=>absurd e hq.2.ne));clear QS QY QA HPo;go_wp2_with fail
   refine Q.o.mono ?_;rintro e w7 ⟨b7,rfl,_,hb7⟩;have HP7:=hi_ (HP.o w7 b7 hb7);clear hb7 Q HP;go_wp2_with fail
   exact bodyPost_ret (v:=.tuple #[.slice ao4 n4 cap4,.bool b7]) (by simp[results,Tryz.results24,go_sem]) rfl HP7.o
  have hzz:((z1:Int)==(z2:Int))=false:=bn_ (by omega);have hzz2:¬(z1:Int)=(z2:Int):=by omega
  have HP:=hi_ (HPo.o w6 false (br_) (fun _ e=>absurd e he));clear QS QY QA HPo he;go_wp2_with fail
  exact bodyPost_ret (v:=.tuple #[.slice ao4 n4 cap4,.bool false]) (by simp[results,Tryz.results24,go_sem]) rfl HP.o
end A
end
end Go.Proofs.YtinphfpdfodkkaaGreatDoor
