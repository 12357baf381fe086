/- Texts. -/
import Derived.Test.YtinphfpdfodkkaaGreatDoorS41
import Derived.Test.YtinphfpdfodkkaaGreatDoorS40
import Derived.Test.YtinphfpdfodkkaaGreatDoorS35
import Derived.Test.YtinphfpdfodkkaaGreatDoorS43
import Derived.Test.YtinphfpdfodkkaaGreatDoorS42
import Derived.Test.YtinphfpdfodkkaaGreatDoorS37
import Derived.Test.YtinphfpdfodkkaaGreatDoorS32
import Derived.Test.YtinphfpdfodkkaaGreatDoorS33
import Derived.Test.YtinphfpdfodkkaaGreatDoorS31
import Derived.Test.YtinphfpdfodkkaaGreatDoorS29
import Derived.Test.YtinphfpdfodkkaaGreatDoorS20
import Derived.Deep.Slices
import Derived.OpenShut
set_option linter.unusedVariables false
set_option linter.unusedSimpArgs false
set_option maxHeartbeats 8000000
set_option maxRecDepth 100000
namespace Go.Proofs.YtinphfpdfodkkaaGreatDoor
section
open Go.RowKit Go.Sort
namespace A
open H G R
theorem start36(b s:Int)(w:World):Calls Tryz.prog 36 #[.agg #[.int .i64 b,.int .i64 s]] w fun e w'=>∃X,e=.returned (.pointer (some ⟨X.tb,0,none⟩))/\bu_ w w' X/\X.m=[aG_]/\X.M.m=[aG_]/\X.T.bs=b/\X.T.st=s:=by
 have hB1:=hi_ ((Below.refl w.heap.size w).alloc (nl_) (.cells #[.int .i64 b,.int .i64 s] 87));have QN:=hi_ (fun W=>new2_ b s W);have QM:=hi_ (fun W=>mNew W)
 go_enter Tryz.func36,Tryz.ntmps36
 go_wp2_with fail
 refine(QN.o _).mono ?_;rintro e w2 ⟨T,rfl,hb2,hT,h1,h2,h3,h4,h5,h6,h7⟩;have HB2:=hi_ (hB1.out.trans (hb2.mono hB1.out.size));have HT:=hi_ hT;have HS:=hi_ (⟨h1,h2,h3,h4,h5,h6,h7⟩:_/\_/\_/\_/\_/\_/\_);have hc:=(ae_ hT.mem.blk);have hlt:=hT.mem.blk.lt;have c5:w2.cell? ⟨T.tb,5,none⟩=some (.int .i64 T.root):=hc.1 5;clear hb2 hT h1 h2 h3 h4 h5 h6 h7 hc QN;go_upto_region 2 with fail
 have c5d:w2.drew.cell? ⟨T.tb,5,none⟩=some (.int .i64 T.root):=c5;have hltd:T.tb<w2.drew.heap.size:=hlt;have hA:=(Below.refl w2.drew.heap.size w2.drew).alloc (nl_) (.cells #[.int .i64 T.root] 3);have c5a:=(hA.cell (p:=⟨T.tb,5,none⟩) hltd).trans c5d;have hlta:T.tb<(w2.drew.alloc (.cells #[.int .i64 T.root] 3)).heap.size:=Nat.lt_of_lt_of_le hltd hA.size;have HA:=hi_ hA;have hws:w.heap.size<=(w.alloc (Obj.cells #[.int .i64 b,.int .i64 s] 87)).heap.size:=hB1.out.size;have HSl:Hd (T.slots.length=1/\∀k,T.foot k->w.heap.size<=k):=hi_ ⟨HS.o.2.2.2.1,n9_ (Nat.le_trans hws HS.o.2.2.2.2.1) (fun k hk=>Nat.le_trans hws (HS.o.2.2.2.2.2.1 k hk)) (Nat.le_trans hws HS.o.2.2.2.2.2.2)⟩;have HBs:Hd (T.bs=b/\T.st=s):=hi_ ⟨HS.o.2.1,HS.o.2.2.1⟩
 have HD:Hd (ag_ w2.drew T [aG_] (fun _=>0)):=hi_ (HT.o.below (br_).drew);clear hA c5 hlt hws
 go_region_with (go_at_call 93;refine(QM.o _).mono ?_;rintro e w3 ⟨M,rfl,hb3,hM,hm,hB,hlow⟩;have k5:w3.cell? ⟨T.tb,5,none⟩=some (.int .i64 T.root):=(by first|exact(hb3.cell (p:=⟨T.tb,5,none⟩) hltd).trans c5d|exact(hb3.cell (p:=⟨T.tb,5,none⟩) hlta).trans c5a);have HP3:=hi_ (⟨hb3,hM,hm,hB,hlow⟩:_/\_/\_/\_/\_);clear hb3 hM hm hB hlow)
 all_goals (go_wp2_with fail)
 rotate_left 2
 focus
  have hX:=start_C (w:=w) (w2:=w2.drew) (w3:=w3) (HB2.o.drew) HD.o HSl.o.1 HSl.o.2 HP3.o.1 HP3.o.2.1 HP3.o.2.2.1 HP3.o.2.2.2.2;exact bodyPost_ret (v:=.pointer (some ⟨w3.heap.size,0,none⟩)) (by simp[results,Tryz.results36,go_sem]) rfl ⟨_,rfl,hX,rfl,HP3.o.2.2.1,HBs.o.1,HBs.o.2⟩
 all_goals
  have hX:=start_A (w:=w) (w2:=w2.drew) (w3:=w3) (HB2.o.drew) HD.o HSl.o.1 HSl.o.2 HP3.o.1 HP3.o.2.1 HP3.o.2.2.1 HP3.o.2.2.2.2;exact bodyPost_ret (v:=.pointer (some ⟨w3.heap.size+1,0,none⟩)) (by simp[results,Tryz.results36,go_sem]) rfl ⟨_,rfl,hX,rfl,HP3.o.2.2.1,HBs.o.1,HBs.o.2⟩
theorem do8(w0 w:World)(X:Tw)(o:G.Op)(k:Nat)(h:bu_ w0 w X)(hF:Fit w0 X o k)(hk:o.kind % 10=8) :
  Calls Tryz.prog 24 #[.pointer (some ⟨X.tb,0,none⟩),opV o] w fun e w'=>jB_ w0 w X o e w':=by
 have hl:=h.pos_len;obtain⟨e1,e2,e3,n1,n2,n3,q1,q2⟩:=cv_ o hl hF.few hF.u8 X.m rfl;have HOV:=ds_ o;rw[HOV.o];have ek:Int.tmod (o.kind:Int) 10=8:=by rw[show(10:Int)=((10:Nat):Int)from rfl,<-Int.ofNat_tmod,hk];rfl
 obtain⟨hb1,HO1,HN0⟩:=dr_ w o;have H1:=hi_ (h.below hb1);have HB1:=hi_ hb1;obtain⟨g,cap,hv,_,hcap,_⟩:=h.toMid.cells hl;have HF:=hi_ hF;obtain⟨⟨ha1,ha2,ha3,hfw⟩,⟨wa1,wa2,wa3⟩,wn1,wc1,hn0,hn00,hn1,hn11⟩:=bZ_ hF hl;clear hb1 HOV
 go_enter Tryz.func24,Tryz.ntmps24
 obtain⟨c0,c1,c2,hlt⟩:=cells3 H1.o.blk;obtain⟨o0,o1,o2,o3,o4,o5,o6,o7⟩:=bf_ HO1.o;have hlo:=HO1.o.lt;rw[hv]at c2;go_upto_region 2 with fail
 go_quiet (fail)
 rw[kC_ rfl hfw];have H2:=hi_ (H1.o.below (bdN (br_) nq));have HO2:=hi_ (HO1.o.below (bdN (br_) nq));have HB2:=hi_ (bdN HB1.o nq);have HN2:=hi_ (HN0.o nq);clear HN0;clear H1 HO1 HB1 c0 c1 c2 hlt o0 o1 o2 o3 o4 o5 o6 o7 hlo;generalize (w.alloc (.cells #[.int .u8 o.kind,.int .u8 o.a,.int .u8 o.b,.int .u8 o.c,.string ⟨o.s.toArray⟩,.string ⟨o.t.toArray⟩,.int .i8 o.n,.int .i8 o.k] 65)).drewN nq=w2 at *;obtain⟨c0,c1,c2,hlt⟩:=cells3 H2.o.blk;obtain⟨o0,o1,o2,o3,o4,o5,o6,o7⟩:=bf_ HO2.o;have hlo:=HO2.o.lt;rw[hv]at c2;have QH:=hi_ (fun(i:Nat) W (hb:Below w2.heap.size w2 W)=>hv_ X.M i W (H2.o.model.below hb));have HSm:=hi_ h.sim;have HV:=hi_ hv;have hst1:=oR_ (lim:=some 64) (m:=X.m) hk;have hst2:=oR_ (lim:=none) (m:=X.M.m) (o:=o) hk
 have hat:o.at_ X.M.m=o.at_ X.m:=by unfold Op.at_;rw[h.sim.len]
 rw[hat,<-h.sim.has]at hst2;obtain⟨a,ha⟩:∃a,a=o.at_ X.m:=⟨_,rfl⟩;rw[<-ha]at hst1 hst2 n1 ⊢;have hr1:(G.step (some 64) X.m o).1=[]:=by rw[hst1];split<;>rfl
 have HR1:=hi_ hr1;have hm1:(G.step (some 64) X.m o).2.2=if has X.m a=false then X.m else(aU_ X.m a (decide (0<o.n))).2:=by rw[hst1];split<;>rfl
 have hm2:(G.step none X.M.m o).2.2=if has X.m a=false then X.M.m else(aU_ X.M.m a (decide (0<o.n))).2:=by rw[hst2];split<;>rfl
 have QC:=hi_ (fun(deep:Bool) (hd:deep=decide (0<o.n))=>copy71 w0 w2 X a deep H2.o n1 hfw (fun i=>by have h1:=(hF.ok1 i);have hk2:=hF.k200;exact Nat.le_trans h1.1 (by omega)) (fun i=>by have h1:=(hF.ok2 i);have hk2:=hF.k200;exact Nat.le_trans h1.1 (by omega)) _ _ (by rw[hd];exact hm1) (by rw[hd];exact hm2) hF.keep);clear hst1 hst2 hat ha h hF e1 e2 e3 wa1 wa2 wa3 wn1 wc1 hn0 hn00 hn1 hn11 q1 q2 hr1 hm1 hm2;go_wp2_with fail
 refine(QH.o a w2 (br_)).mono ?_;rintro e w2' ⟨rfl,rfl⟩;generalize has X.M.m a=hh at *
 rcases Int.lt_or_le 0 o.n with hN|hN
 ·have Q:=hi_ (QC.o true (decide_eq_true hN).symm)
  clear QC QH;go_wp2_with fail
  refine Q.o.mono ?_;rintro e w3 ⟨X',rfl,hX,ht,hb,hs,hp,hm,hM⟩;have HP:=hi_ (⟨hX,ht,hb,hs,hp,hm,hM⟩:_/\_/\_/\_/\_/\_/\_);clear hX ht hb hs hp hm hM Q;go_wp2_with fail
  refine bodyPost_ret (v:=.tuple #[.slice none 0 0,.bool true]) (by simp[results,Tryz.results24,go_sem]) rfl ⟨_,_,X',rfl,HP.o.1,HP.o.2.1,HP.o.2.2.1,HP.o.2.2.2.1,HP.o.2.2.2.2.1,HP.o.2.2.2.2.2.1,HP.o.2.2.2.2.2.2,by rw[HR1.o];exact aD_.nil _ _ _ _,fun _ _=>rfl⟩
 have hN2:decide (0<o.n)=false:=decide_eq_false (by omega);have Q:=hi_ (QC.o false hN2.symm);clear QC QH hN;go_wp2_with fail
 refine Q.o.mono ?_;rintro e w3 ⟨X',rfl,hX,ht,hb,hs,hp,hm,hM⟩;have HP:=hi_ (⟨hX,ht,hb,hs,hp,hm,hM⟩:_/\_/\_/\_/\_/\_/\_);clear hX ht hb hs hp hm hM Q;go_wp2_with fail
 refine bodyPost_ret (v:=.tuple #[.slice none 0 0,.bool true]) (by simp[results,Tryz.results24,go_sem]) rfl ⟨_,_,X',rfl,HP.o.1,HP.o.2.1,HP.o.2.2.1,HP.o.2.2.2.1,HP.o.2.2.2.2.1,HP.o.2.2.2.2.2.1,HP.o.2.2.2.2.2.2,by rw[HR1.o];exact aD_.nil _ _ _ _,fun _ _=>rfl⟩
end A
end
section
open Go.RowKit Go.Sort
namespace G
def iQ_(o:Op):Bool:=decide (o.s.length<=40) && decide (o.t.length<=40)
def few(os:List Op):Bool:=os.all iQ_ && decide (os.length<=60)
end G
namespace A
open H G R
def jX_(o:G.Op):List Value:=[.int .u8 o.kind,.int .u8 o.a,.int .u8 o.b,.int .u8 o.c,.string ⟨o.s.toArray⟩,.string ⟨o.t.toArray⟩,.int .i8 o.n,.int .i8 o.k]
def fA_(w:World)(v:Value)(os:List G.Op):Prop:=
 ∃ao cap,v=.slice ao os.length cap/\(0<os.length->∃b off,ao=some ⟨b,off,none⟩/\b<w.heap.size/\∀j (hj:j<os.length) k,k<8->w.cell? ⟨b,off+j*8+k,none⟩=(jX_ os[j])[k]?)
theorem fA_.below{w w':World}{v:Value}{os:List G.Op}(h:fA_ w v os)(hb:Below w.heap.size w w'):fA_ w' v os:=by
 obtain⟨ao,cap,hv,h⟩:=h;refine⟨ao,cap,hv,fun hl=>?_⟩;obtain⟨b,off,e,hlt,hc⟩:=h hl;refine⟨b,off,e,Nat.lt_of_lt_of_le hlt hb.size,fun j hj k hk=>?_⟩;rw[<-hc j hj k hk];have:=hb.block b hlt;simp only[World.cell?,this]
theorem fA_.at{w:World}{ao:Option Addr}{n cap:Nat}{os:List G.Op}(h:fA_ w (.slice ao n cap) os)(hl:0<os.length):∃b off,ao=some ⟨b,off,none⟩/\b<w.heap.size/\∀j (hj:j<os.length) k,k<8->w.cell? ⟨b,off+j*8+k,none⟩=(jX_ os[j])[k]?:=by
 obtain⟨ao',cap',hv,h⟩:=h;injection hv with h1 h2 h3
 subst h1;exact h hl
theorem few_all{os:List G.Op}(h:∀o,o∈os->iQ_ o=true):few os=decide (os.length<=60):=by
 unfold few;rw[List.all_eq_true.2 h,Bool.true_and]
theorem mY_{os:List G.Op}{o:G.Op}(ho:o∈os)(h:iQ_ o=false):few os=false:=by
 unfold few;have:os.all iQ_=false:=by
  rw[Bool.eq_false_iff];intro e;have:=List.all_eq_true.1 e o ho;rw[h]at this
  cases this
 rw[this,Bool.false_and]
theorem few_(os:List G.Op)(v:Value)(w:World)(h:fA_ w v os)(hl:os.length<=9223372036854775807) :
  Calls Tryz.prog 10 #[v] w fun e w'=>e=.returned (.bool (few os))/\w=w':=by
 obtain⟨ao,cap,hv,_⟩:=id h;subst hv;have HR:=hi_ h;clear h;obtain⟨R,hR⟩:∃R,R=few os:=⟨_,rfl⟩;have HRr:=hi_ hR;rw[<-hR];clear hR
 go_enter Tryz.func10,Tryz.ntmps10
 go_wp2_with fail
 go_loopw [3] (fun v3 wr=>∃i:Nat,v3=.int .i64 (i:Nat)/\i<=os.length/\wr=w/\Hd (∀j (hj:j<os.length),j<i->iQ_ os[j]=true))
  (fun v3 _=>os.length-(Go.RowKit.intOf v3).toNat)
 case atStart=>exact⟨0,rfl,Nat.zero_le _,rfl,hi_ (fun j _ hj=>by omega)⟩
 obtain⟨i,rfl,hi,rfl,HI⟩:=hrel
 rcases Nat.lt_or_ge i os.length with hlt|hge
 ·have hii:(i:Int)<(os.length:Int):=by omega
  have hi0:(0:Int)<=(i:Int):=by omega
  obtain⟨g,off,e1,hgl,hcc⟩:=HR.o.at (by omega);subst e1;have c4':wr.cell? ⟨g,off+i*8+4,none⟩=some (.string ⟨os[i].s.toArray⟩):=hcc i hlt 4 (by omega);have c5':wr.cell? ⟨g,off+i*8+5,none⟩=some (.string ⟨os[i].t.toArray⟩):=hcc i hlt 5 (by omega);clear hcc;have HIm:=hi_ (List.getElem_mem hlt);have HNx:Hd (iQ_ os[i]=true->∀j (hj:j<os.length),j<i+1->iQ_ os[j]=true):=hi_ (fun ho j hj hj2=>by
   rcases Nat.lt_or_ge j i with h1|h1
   ·exact HI.o j hj h1
   have:j=i:=by omega
   subst this;exact ho)
  generalize os[i]=o at *
  by_cases hs:o.s.length<=40
  ·have hs2:decide ((40:Int)<(o.s.length:Int))=false:=decide_eq_false (by omega)
   by_cases ht:o.t.length<=40
   ·have ht2:decide ((40:Int)<(o.t.length:Int))=false:=decide_eq_false (by omega)
    have HN2:=hi_ (HNx.o (by unfold iQ_;rw[decide_eq_true hs,decide_eq_true ht];rfl));clear hs ht;go_wp2_with fail
    go_roundw
    case rel=>exact⟨i+1,by go_num,by omega,trivial,HN2⟩
    simp[Go.RowKit.intOf];omega
   have ht2:decide ((40:Int)<(o.t.length:Int))=true:=decide_eq_true (by omega);have HB:Hd (R=false):=hi_ (HRr.o.trans (mY_ HIm.o (by unfold iQ_;rw[decide_eq_true hs,decide_eq_false ht];rfl)));clear hs ht;go_wp2_with fail
   exact bodyPost_ret (v:=.bool false) (by simp[results,Tryz.results10,go_sem]) rfl ⟨by rw[HB.o],rfl⟩
  have hs2:decide ((40:Int)<(o.s.length:Int))=true:=decide_eq_true (by omega);have HB:Hd (R=false):=hi_ (HRr.o.trans (mY_ HIm.o (by unfold iQ_;rw[decide_eq_false hs];rfl)));clear hs;go_wp2_with fail
  exact bodyPost_ret (v:=.bool false) (by simp[results,Tryz.results10,go_sem]) rfl ⟨by rw[HB.o],rfl⟩
 have hie:i=os.length:=by omega
 have HB:Hd (R=decide (os.length<=60)):=hi_ (HRr.o.trans (few_all (fun o ho=>by
  obtain⟨j,hj,e⟩:=List.getElem_of_mem ho;rw[<-e];exact HI.o j hj (by omega))))
 subst hie;have hnot:¬((os.length:Nat):Int)<((os.length:Nat):Int):=by omega
 have HE:Hd (decide ((os.length:Int)<=60)=decide (os.length<=60)):=hi_ (by congr 1;exact propext ⟨fun h=>by omega,fun h=>by omega⟩);go_wp2_with fail
 exact bodyPost_ret (v:=.bool (decide ((os.length:Int)<=60))) (by simp[results,Tryz.results10,go_sem]) rfl ⟨by rw[HB.o,HE.o],rfl⟩
end A
end
section
open Go.RowKit Go.Sort
namespace A
open H G R
theorem do_(w0 w:World)(X:Tw)(o:G.Op)(k:Nat)(h:bu_ w0 w X)(hF:Fit w0 X o k) :
  Calls Tryz.prog 24 #[.pointer (some ⟨X.tb,0,none⟩),opV o] w fun e w'=>jB_ w0 w X o e w':=by
 have hlt:o.kind % 10<10:=Nat.mod_lt _ (by omega)
 by_cases k0:o.kind % 10<3
 ·exact do012 w0 w X o k h hF k0
 by_cases k3:o.kind % 10=3
 ·cases hA:has X.m (o.at_ X.m) with
  |false=>exact do3_1 w0 w X o k h hF k3 hA
  |true=>
   cases hB:has X.m (o.bt X.m) with
   |false=>exact do3_2 w0 w X o k h hF k3 hA hB
   |true=>
    cases hC:o.ct X.m with
    |none=>exact do3_4 w0 w X o k h hF k3 hA hB hC
    |some ci=>
     cases hI:has X.m ci with
     |false=>exact do3_3 w0 w X o k h hF k3 hA hB ci hC hI
     |true=>exact do3_5 w0 w X o k h hF k3 hA hB ci hC hI
 by_cases k4:o.kind % 10=4
 ·exact do4 w0 w X o k h hF k4
 by_cases k5:o.kind % 10=5
 ·exact do5 w0 w X o k h hF k5
 by_cases k6:o.kind % 10=6
 ·exact do6 w0 w X o k h hF k6
 by_cases k7:o.kind % 10=7
 ·exact do7 w0 w X o k h hF k7
 by_cases k8:o.kind % 10=8
 ·exact do8 w0 w X o k h hF k8
 have k9:o.kind % 10=9:=by omega
 cases hA:has X.m (o.at_ X.m) with
 |false=>exact do9_1 w0 w X o k h hF k9 hA
 |true=>exact do9_2 w0 w X o k h hF k9 hA
end A
end
section
open Go.RowKit Go.Sort
namespace G
def kw_:List Op->aa_->aa_
 |[],m=>m
 |o :: os,m=>if m.length<120 then kw_ os (step none m o).2.2 else m
theorem lT_{os:List Op}{m:aa_}(h:¬m.length<120):kw_ os m=m:=by
 cases os with
 |nil=>rfl
 |cons o os=>rw[kw_,if_neg h]
def Op.fits(o:Op):Prop:=(o.kind<256/\o.a<256/\o.b<256/\o.c<256)/\(-128<=o.n/\o.n<=127)/\(-128<=o.k/\o.k<=127)
end G
namespace A
open H G R
theorem fit_run{w wr:World}{X:Tw}{o:G.Op}{i:Nat}(h:bu_ w wr X)(hM:X.M.m=X.m)(hl:X.m.length<120)(hi:i<60)(hok:dk_ (cR_ i) X.m)(ho:iQ_ o=true)(hf:o.fits)(ht:fz_ w):Fit w X o i/\G.step (some 64) X.m o=G.step none X.m o:=by
 have hs:G.step (some 64) X.m o=G.step none X.m o:=nH_ (fun j=>by have:=(hok j).1;unfold bod at this;dsimp only at this;omega);unfold iQ_ at ho;rw[Bool.and_eq_true,decide_eq_true_eq,decide_eq_true_eq]at ho;exact⟨⟨by omega,hok,by rw[hM];exact hok,by omega,ho.1,ho.2,hf.2.1,hf.2.2,hf.1,ht,Or.inl (Or.inl (by rw[hM,hs])),by rw[hM,hs];exact Sim.refl _⟩,hs⟩
end A
end
section
open Go.RowKit Go.Sort
namespace A
open H G R
theorem doc_ok:dk_ (cR_ 0) [aG_]:=by
 intro j;have e:bod (nd [aG_] j)=([],[]):=by
  cases j with
  |zero=>rfl
  |succ j=>rfl
 rw[e];exact⟨by simp,rfl,by simp⟩
theorem start11(os:List G.Op)(v:Value)(w:World)(h:fA_ w v os)(hfew:few os=true)(hf:∀o,o∈os->o.fits)(ht:fz_ w) :
  Calls Tryz.prog 11 #[v] w fun e w'=>∃X,e=.returned (.pointer (some ⟨X.tb,0,none⟩))/\bu_ w w' X/\X.M.m=X.m/\X.m=kw_ os [aG_]/\(∃i,i<=60/\dk_ (cR_ i) X.m)/\X.m.length<=300/\X.T.bs=2/\X.T.st=2:=by
 obtain⟨ao,cap,hv,_⟩:=id h;subst hv;have HR:=hi_ h;have hfw:os.all iQ_=true/\os.length<=60:=by
  unfold few at hfew;rw[Bool.and_eq_true,decide_eq_true_eq]at hfew;exact hfew
 have HOk:=hi_ (List.all_eq_true.1 hfw.1);have hlen:=hfw.2;have HFt:=hi_ hf;have HTb:=hi_ ht;have QS:=hi_ (fun W=>start36 2 2 W);clear h hfw hfew hf ht
 go_enter Tryz.func11,Tryz.ntmps11
 go_wp2_with fail
 refine(QS.o _).mono ?_;rintro e w1 ⟨X1,rfl,hX,hm,hM,hb,hs⟩;have H1:=hi_ (⟨hX,hm,hM,hb,hs⟩:_/\_/\_/\_/\_);obtain⟨tb,htb⟩:∃tb,tb=X1.tb:=⟨_,rfl⟩;have HTbb:=hi_ htb;rw[<-htb];clear hX hm hM hb hs QS htb;go_wp2_with fail
 go_loopw [4] (fun v4 wr=>∃(i:Nat) (X:Tw),v4=.int .i64 (i:Nat)/\i<=os.length/\Hd (X.tb=tb)/\Hd (bu_ w wr X)/\Hd (X.M.m=X.m)/\Hd (kw_ (os.drop i) X.m=kw_ os [aG_])/\Hd (dk_ (cR_ i) X.m)/\Hd (X.T.bs=2/\X.T.st=2)/\Hd (X.m.length<=300))
  (fun v4 _=>os.length-(Go.RowKit.intOf v4).toNat)
 case atStart=>
  exact⟨0,X1,rfl,Nat.zero_le _,hi_ HTbb.o.symm,hi_ H1.o.1,hi_ (by rw[H1.o.2.1,H1.o.2.2.1]),hi_ (by rw[H1.o.2.1];rfl),hi_ (by rw[H1.o.2.1];exact doc_ok),hi_ H1.o.2.2.2,hi_ (by rw[H1.o.2.1];exact(by decide:1<=300))⟩
 obtain⟨i,X,rfl,hi,HXt,HX,HXm,HRun,HAl,HBs,HLn⟩:=hrel
 rcases Nat.lt_or_ge i os.length with hlt|hge
 ·have hii:(i:Int)<(os.length:Int):=by omega
  have hi0:(0:Int)<=(i:Int):=by omega
  obtain⟨c0,c1,c2,htl⟩:=cells3 HX.o.blk;have hlp:=HX.o.pos_len;obtain⟨gh,caph,hhv,_,_,_⟩:=HX.o.toMid.cells hlp;rw[hhv]at c2;rw[HXt.o]at c0 c1 c2 htl
  by_cases hsm:X.m.length<120
  ·have hs2:decide ((X.m.length:Int)<120)=true:=decide_eq_true (by omega)
   have hsi:(X.m.length:Int)<120:=by omega
   have HRr:Hd (fA_ wr (.slice ao os.length cap) os):=hi_ (HR.o.below HX.o.bel);obtain⟨g,off,e1,hgl,hcc⟩:=HRr.o.at (by omega);subst e1;have k0:=hcc i hlt 0 (by omega);have k1:=hcc i hlt 1 (by omega);have k2:=hcc i hlt 2 (by omega);have k3:=hcc i hlt 3 (by omega);have k4:=hcc i hlt 4 (by omega);have k5:=hcc i hlt 5 (by omega);have k6:=hcc i hlt 6 (by omega);have k7:=hcc i hlt 7 (by omega);clear hcc;have hmem:os[i]∈os:=List.getElem_mem hlt;obtain⟨hF,hst⟩:=fit_run HX.o HXm.o hsm (by omega) HAl.o (HOk.o _ hmem) (HFt.o _ hmem) HTb.o;have hdr:os.drop i=os[i] :: os.drop (i+1):=List.drop_eq_getElem_cons hlt;have HRun2:Hd (kw_ (os.drop (i+1)) (G.step none X.m os[i]).2.2=kw_ os [aG_]):=hi_ (by
    have h1:=HRun.o;rw[hdr,kw_,if_pos hsm]at h1;exact h1)
   have ho40:=HOk.o _ hmem;have HAl2:Hd (dk_ (cR_ (i+1)) (G.step (some 64) X.m os[i]).2.2):=hi_ (jb_ HAl.o (by
    unfold iQ_ at ho40;rw[Bool.and_eq_true,decide_eq_true_eq,decide_eq_true_eq]at ho40;have:=U.gW_ os[i].t
    omega))
   have QD:=hi_ (do_ w wr X os[i] i HX.o hF);rw[HXt.o]at QD;have HSt:=hi_ hst;have HL2:Hd ((G.step (some 64) X.m os[i]).2.2.length<=300):=hi_ (by have:=jI_ HX.o.tree.fits.wf (some 64) os[i];omega);generalize os[i]=o at *;have j0:wr.cell? ⟨g,off+i*8,none⟩=some (.int .u8 o.kind):=k0;have j1:wr.cell? ⟨g,off+i*8+1,none⟩=some (.int .u8 o.a):=k1;have j2:wr.cell? ⟨g,off+i*8+2,none⟩=some (.int .u8 o.b):=k2;have j3:wr.cell? ⟨g,off+i*8+3,none⟩=some (.int .u8 o.c):=k3;have j4:wr.cell? ⟨g,off+i*8+4,none⟩=some (.string ⟨o.s.toArray⟩):=k4;have j5:wr.cell? ⟨g,off+i*8+5,none⟩=some (.string ⟨o.t.toArray⟩):=k5;have j6:wr.cell? ⟨g,off+i*8+6,none⟩=some (.int .i8 o.n):=k6;have j7:wr.cell? ⟨g,off+i*8+7,none⟩=some (.int .i8 o.k):=k7
   clear k0 k1 k2 k3 k4 k5 k6 k7 hF hst hdr ho40 hmem;unfold opV at QD;go_wp2_with fail
   refine QD.o.mono ?_;rintro e w5 ⟨v5,b5,X',rfl,hX',ht',hb',hs',_,hm',hM',_,_⟩;have HX':=hi_ hX';have HXt':Hd (X'.tb=tb):=hi_ ((congrArg Prod.fst ht').trans HXt.o);have HXm':Hd (X'.M.m=X'.m):=hi_ (by rw[hM',hm',HXm.o,HSt.o]);have HRun':Hd (kw_ (os.drop (i+1)) X'.m=kw_ os [aG_]):=hi_ (by rw[hm',HSt.o];exact HRun2.o);have HAl':Hd (dk_ (cR_ (i+1)) X'.m):=hi_ (by rw[hm'];exact HAl2.o);have HBs':Hd (X'.T.bs=2/\X'.T.st=2):=hi_ ⟨hb'.trans HBs.o.1,hs'.trans HBs.o.2⟩;have HLn':Hd (X'.m.length<=300):=hi_ (by rw[hm'];exact HL2.o);clear hX' ht' hb' hs' hm' hM' QD HAl2 HRun2 HL2;go_wp2_with fail
   go_roundw
   case rel=>exact⟨i+1,X',by go_num,by omega,HXt',HX',HXm',HRun',HAl',HBs',HLn'⟩
   simp[Go.RowKit.intOf];omega
  have hs2:decide ((X.m.length:Int)<120)=false:=decide_eq_false (by omega);have hsn:¬(X.m.length:Int)<120:=by omega
  have HEq:Hd (X.m=kw_ os [aG_]):=hi_ (by rw[<-HRun.o,lT_ hsm]);go_wp2_with fail
  refine bodyPost_ret (v:=.pointer (some ⟨tb,0,none⟩)) (by simp[results,Tryz.results11,go_sem]) rfl ⟨X,by rw[HXt.o],HX.o,HXm.o,HEq.o,⟨i,by omega,HAl.o⟩,HLn.o,HBs.o.1,HBs.o.2⟩
 have hie:i=os.length:=by omega
 have HEq:Hd (X.m=kw_ os [aG_]):=hi_ (by rw[<-HRun.o,hie,List.drop_length];rfl);subst hie;have hnot:¬((os.length:Nat):Int)<((os.length:Nat):Int):=by omega
 go_wp2_with fail
 refine bodyPost_ret (v:=.pointer (some ⟨tb,0,none⟩)) (by simp[results,Tryz.results11,go_sem]) rfl ⟨X,by rw[HXt.o],HX.o,HXm.o,HEq.o,⟨os.length,hlen,HAl.o⟩,HLn.o,HBs.o.1,HBs.o.2⟩
end A
end
section
open Go.ChangeShapes Go.WideShapes Go.RowKit
namespace A
open H G R
theorem wf_u8{n:Int}(h:(Lit.int .u8 n).wf=true):0<=n/\n<=255:=by
 simp[Lit.wf,IntKind.min,IntKind.max,IntKind.signed,IntKind.bits]at h;omega
theorem wf_i8{n:Int}(h:(Lit.int .i8 n).wf=true):-128<=n/\n<=127:=by
 simp[Lit.wf,IntKind.min,IntKind.max,IntKind.signed,IntKind.bits]at h;omega
theorem mT_{l:List Value}{i:Nat}{v:Value}(h:(l.drop i).take 1=[v]):l[i]?=some v:=by
 have:=congrArg (fun l:List Value=>l[0]?) h;simpa[List.getElem?_take,List.getElem?_drop]using this
section
variable {H:Type} {enc:TypeId×Value->H} {W:World}
theorem kr_{spare:Nat->Bool}{held:Bool}{n:Nat}{l:List Value}{i:Nat}{x:DataW H×List MemPlace}(h:DataW.trod enc Tryz.prog W 0 spare held n 5 ((l.drop i).take 1)=some x):∃k:Nat,k<256/\l[i]?=some (.int .u8 (k:Nat)):=by
 obtain⟨z,h1,_,h2⟩:=DataW.trod_int Tryz.underlying5 h;have h3:=wf_u8 h2;refine⟨z.toNat,by omega,?_⟩;rw[Int.toNat_of_nonneg h3.1];exact mT_ h1
theorem i8_at{spare:Nat->Bool}{held:Bool}{n:Nat}{l:List Value}{i:Nat}{x:DataW H×List MemPlace}(h:DataW.trod enc Tryz.prog W 0 spare held n 63 ((l.drop i).take 1)=some x):∃z:Int,(-128<=z/\z<=127)/\l[i]?=some (.int .i8 z):=by
 obtain⟨z,h1,_,h2⟩:=DataW.trod_int Tryz.underlying63 h;exact⟨z,wf_i8 h2,mT_ h1⟩
theorem oQ_{spare:Nat->Bool}{held:Bool}{n:Nat}{l:List Value}{i:Nat}{x:DataW H×List MemPlace}(h:DataW.trod enc Tryz.prog W 0 spare held n 9 ((l.drop i).take 1)=some x):∃s:List UInt8,l[i]?=some (.string ⟨s.toArray⟩):=by
 obtain⟨s,h1,_,h2⟩:=DataW.trod_string Tryz.underlying9 h;exact⟨s.data.toList,by rw[mT_ h1]⟩
theorem op_at{spare:Nat->Bool}{held:Bool}{n:Nat}{cs:List Value}{x:DataW H×List MemPlace}(h:DataW.trod enc Tryz.prog W 0 spare held n 65 cs=some x):∃o:G.Op,o.fits/\∀k,k<8->cs[k]?=(jX_ o)[k]?:=by
 obtain⟨xs,m,_,_,hcs,hxl,hf⟩:=DataW.trod_struct Tryz.underlying65 h;have c1:Tryz.prog.cellsOf 5 = 1:=by kernel_rfl
 have c2:Tryz.prog.cellsOf 9 = 1:=by kernel_rfl
 have c3:Tryz.prog.cellsOf 63 = 1:=by kernel_rfl
 have hx8:xs.length=8:=hxl;have g0:DataW.trod enc Tryz.prog W 0 spare held m 5 ((cs.drop 0).take (Tryz.prog.cellsOf 5))=xs[0]?:=hf 0 _ rfl;have g1:DataW.trod enc Tryz.prog W 0 spare held m 5 ((cs.drop 1).take (Tryz.prog.cellsOf 5))=xs[1]?:=hf 1 _ rfl;have g2:DataW.trod enc Tryz.prog W 0 spare held m 5 ((cs.drop 2).take (Tryz.prog.cellsOf 5))=xs[2]?:=hf 2 _ rfl;have g3:DataW.trod enc Tryz.prog W 0 spare held m 5 ((cs.drop 3).take (Tryz.prog.cellsOf 5))=xs[3]?:=hf 3 _ rfl;have g4:DataW.trod enc Tryz.prog W 0 spare held m 9 ((cs.drop 4).take (Tryz.prog.cellsOf 9))=xs[4]?:=hf 4 _ rfl;have g5:DataW.trod enc Tryz.prog W 0 spare held m 9 ((cs.drop 5).take (Tryz.prog.cellsOf 9))=xs[5]?:=hf 5 _ rfl
 have g6:DataW.trod enc Tryz.prog W 0 spare held m 63 ((cs.drop 6).take (Tryz.prog.cellsOf 63))=xs[6]?:=hf 6 _ rfl;have g7:DataW.trod enc Tryz.prog W 0 spare held m 63 ((cs.drop 7).take (Tryz.prog.cellsOf 63))=xs[7]?:=hf 7 _ rfl;rw[c1,List.getElem?_eq_getElem (by omega)]at g0 g1 g2 g3;rw[c2,List.getElem?_eq_getElem (by omega)]at g4 g5;rw[c3,List.getElem?_eq_getElem (by omega)]at g6 g7;obtain⟨k0,b0,e0⟩:=kr_ g0;obtain⟨k1,b1,e1⟩:=kr_ g1;obtain⟨k2,b2,e2⟩:=kr_ g2;obtain⟨k3,b3,e3⟩:=kr_ g3;obtain⟨s4,e4⟩:=oQ_ g4;obtain⟨s5,e5⟩:=oQ_ g5;obtain⟨k6,b6,e6⟩:=i8_at g6;obtain⟨k7,b7,e7⟩:=i8_at g7;refine⟨⟨k0,k1,k2,k3,s4,s5,k6,k7⟩,⟨⟨b0,b1,b2,b3⟩,b6,b7⟩,fun k hk=>?_⟩
 match k,hk with
 |0,_=>exact e0
 |1,_=>exact e1
 |2,_=>exact e2
 |3,_=>exact e3
 |4,_=>exact e4
 |5,_=>exact e5
 |6,_=>exact e6
 |7,_=>exact e7
instance:Inhabited G.Op:=⟨⟨0,0,0,0,[],[],0,0⟩⟩
theorem jS_{ao:Option Addr}{len cap:Nat}{d:DataW H}{p:List MemPlace}
  (h:∃fuel,DataW.trod enc Tryz.prog W 0 (fun _=>true) true fuel 22 (Value.slice ao len cap).cells.toList=some (d,p)) (hlt:∀x∈p,x.block<W.heap.size) :
  ∃os:List G.Op,len=os.length/\os.length<=9223372036854775807/\fA_ W (.slice ao len cap) os/\∀o,o∈os->o.fits:=by
 obtain⟨fuel,hf⟩:=h;have c8:Tryz.prog.cellsOf 65 = 8:=by kernel_rfl
 rcases Go.Deep.open_slice Tryz.underlying22 hf with⟨hcs,_⟩|⟨a,len',cap',m,n,D,Pl,hcs,_,hl,hm,hmm,hx,hel⟩
 ·simp[Value.cells]at hcs
  obtain⟨rfl,rfl,rfl⟩:=hcs;exact⟨[],rfl,by simp,⟨none,0,rfl,fun h=>by simp at h⟩,fun o ho=>by cases ho⟩
 simp[Value.cells]at hcs;obtain⟨rfl,rfl,rfl⟩:=hcs;simp only[if_true]at hmm;have hmm2:=hmm.symm;subst hmm2;rw[c8]at hx hel;have each:∀i,i<cap->∃o:G.Op,o.fits/\∀k,k<8->W.cell? ((a.add (i*8)).add k)=(jX_ o)[k]?:=by
  intro i hi;obtain⟨cs,h1,h2⟩:=hel i hi;obtain⟨_,_,h3⟩:=World.cells?_some h1;obtain⟨o,ho,h4⟩:=op_at h2;exact⟨o,ho,fun k hk=>(h3 k hk).trans (h4 k hk)⟩
 obtain⟨f,hfn⟩:=Go.Deep.choose_lt each;have hlen:((List.range len).map f).length=len:=by simp
 unfold maxLen at hm;refine⟨(List.range len).map f,hlen.symm,by rw[hlen];omega,⟨some a,cap,by rw[hlen],fun hpos=>?_⟩,fun o ho=>?_⟩
 ·rw[hlen]at hpos
  obtain⟨b,off,spot⟩:=a;have h0:=(hfn 0 (by omega)).2 0 (by omega);have hspot:spot=none:=by
   have h1:W.cell? (((⟨b,off,spot⟩:Addr).add (0*8)).add 0)=some (.int .u8 ((f 0).kind:Nat)):=h0;simpa[Addr.add]using World.cell?_spot h1
  subst hspot;have hbW:b<W.heap.size:=by
   simp only[Prod.mk.injEq]at hx;refine hlt (.cell b off) ?_;rw[hx.2];exact List.mem_append_left _ (MemPlace.mem_row.2 ⟨0,by omega,by simp⟩)
  refine⟨b,off,rfl,hbW,fun j hj k hk=>?_⟩;rw[hlen]at hj;have h1:=(hfn j (by omega)).2 k hk;rw[Go.Deep.add_add]at h1;rw[show((⟨b,off,none⟩:Addr).add (j*8+k))=⟨b,off+j*8+k,none⟩ by simp[Addr.add,Nat.add_assoc]]at h1;rw[h1];simp
 obtain⟨i,hi,rfl⟩:=List.mem_map.1 ho;exact(hfn i (by have:=List.mem_range.1 hi;omega)).1
theorem spot_at{spare:Nat->Bool}{held:Bool}{n:Nat}{l:List Value}{i:Nat}{x:DataW H×List MemPlace}(h:DataW.trod enc Tryz.prog W 0 spare held n 24 ((l.drop i).take 2)=some x):∃a b:Nat,a<256/\b<256/\l[i]?=some (.int .u8 (a:Nat))/\l[i+1]?=some (.int .u8 (b:Nat)):=by
 obtain⟨xs,m,_,_,hcl,hxl,hf⟩:=DataW.trod_array Tryz.underlying24 h;have c1:Tryz.prog.cellsOf 5 = 1:=by kernel_rfl
 have g0:DataW.trod enc Tryz.prog W 0 spare held m 5 ((((l.drop i).take 2).drop (0 * Tryz.prog.cellsOf 5)).take (Tryz.prog.cellsOf 5))=xs[0]?:=hf 0 (by omega);have g1:DataW.trod enc Tryz.prog W 0 spare held m 5 ((((l.drop i).take 2).drop (1 * Tryz.prog.cellsOf 5)).take (Tryz.prog.cellsOf 5))=xs[1]?:=hf 1 (by omega);rw[c1,List.getElem?_eq_getElem (by omega)]at g0 g1;obtain⟨a,ha,ea⟩:=kr_ g0;obtain⟨b,hb,eb⟩:=kr_ g1;refine⟨a,b,ha,hb,?_,?_⟩
 ·rw[<-ea];simp[List.getElem?_take,List.getElem?_drop]
 rw[<-eb];simp[List.getElem?_take,List.getElem?_drop]
end
end A
end
section
open Go.ChangeShapes Go.WideShapes Go.RowKit
namespace A
open H G R
section
variable {H:Type} {enc:TypeId×Value->H} {W:World}
variable {H:Type} {enc:TypeId×Value->H} {W:World}
end
end A
end
section
open Go.RowKit Go.Sort
namespace G
def cf_(m:aa_)(p:Nat):Nat:=p % m.length
def eh_(m:aa_)(p q:Nat):Nat:=if has m (cf_ m p)=true then q % (G.sizeOf m (cf_ m p)+1)else q
end G
namespace A
open H G R
theorem hF_{g:Nat}{t:TypeId}{w:World}{a b:Value}(h:Blk g #[a,b] t w)(c d:Value):Blk g #[c,d] t ((w.setCell ⟨g,0,none⟩ c).setCell ⟨g,1,none⟩ d):=by
 have h9:=(h.set 0 c).set 1 d;simp only[List.setIfInBounds_toArray,List.set_cons_zero,List.set_cons_succ]at h9;exact h9
def jP_(i k:Nat):Value:=.agg #[.int .i64 i,.int .i64 k]
theorem point_(w0 w:World)(X:Tw)(p q:Nat)(h:bu_ w0 w X)(hm:X.M.m=X.m)(hW:Whole X.m)(hfw:X.m.length<=2000)(hp:p<256)(hq:q<256) :
  Calls Tryz.prog 12 #[.pointer (some ⟨X.tb,0,none⟩),.agg #[.int .u8 p,.int .u8 q]] w fun e w'=>e=.returned (.tuple #[jP_ (cf_ X.m p) (eh_ X.m p q),be_ (hv1 X.T X.pos X.m (cf_ X.m p)) (eh_ X.m p q:Nat)])/\Below w.heap.size w w':=by
 have hl:=h.pos_len;have n1:cf_ X.m p<X.m.length:=Nat.mod_lt _ hl;have ek2:Int.tmod (p:Int) (X.m.length:Int)=(cf_ X.m p:Int):=(Int.ofNat_tmod _ _).symm;have HI:Hd (eh_ X.m p q=if has X.m (cf_ X.m p)=true then q % (G.sizeOf X.m (cf_ X.m p)+1)else q):=hi_ rfl;have QS:=hi_ (fun W (hM:ac_ W X.M)=>mSize X.M (cf_ X.m p) W hM (by rw[<-X.M.m_len,hm];exact n1) (by rw[hm];have:=(hW (cf_ X.m p)).1;omega) (by rw[hm];exact(hW (cf_ X.m p)).2));have QH:=hi_ (fun W (hM:ac_ W X.M)=>hv_ X.M (cf_ X.m p) W hM);rw[hm]at QS QH;have hsz:G.sizeOf X.m (cf_ X.m p)<=100000:=dY_ h.tree.fits.wf hW (by omega) _;generalize eh_ X.m p q=k at *;generalize cf_ X.m p=a at *;generalize G.sizeOf X.m a=sz at *
 have hb1:=((((Below.refl w.heap.size w).alloc (nl_) (.cells #[.int .u8 p,.int .u8 q] 24))).alloc (by simp) (.cells #[.int .i64 0,.int .i64 0] 30)).alloc (by simp;omega) (.cells #[.int .i64 0,.int .i64 0] 31);have HX1:=hi_ (((Blk.new w #[.int .u8 p,.int .u8 q] 24).alloc (.cells #[.int .i64 0,.int .i64 0] 30)).alloc (.cells #[.int .i64 0,.int .i64 0] 31));have HX2:=hi_ ((Blk.new (w.alloc (.cells #[.int .u8 p,.int .u8 q] 24)) #[.int .i64 0,.int .i64 0] 30).alloc (.cells #[.int .i64 0,.int .i64 0] 31))
 have HX3:=hi_ (Blk.new ((w.alloc (.cells #[.int .u8 p,.int .u8 q] 24)).alloc (.cells #[.int .i64 0,.int .i64 0] 30)) #[.int .i64 0,.int .i64 0] 31);simp only[World.size_alloc]at HX2 HX3;have H1:=hi_ (h.below hb1);have HB1:=hi_ hb1;obtain⟨g,cap,hv,_,hcap,_⟩:=h.toMid.cells hl;have HSx:Hd (∀W,Below w.heap.size w W->W.cell? ⟨X.tb,2,none⟩=some (.slice (some ⟨g,0,none⟩) X.m.length cap)/\W.cell? ⟨g,a,none⟩=some (.int .i64 (hv1 X.T X.pos X.m a))):=hi_ (fun W hb=>by
  have h2:=h.below hb;obtain⟨_,_,c2,_⟩:=cells3 h2.blk;rw[hv]at c2;exact⟨c2,(h2.toMid.get hv n1).1⟩)
 have hz1:=h.toMid.get hv n1;have hgl:=hz1.2.2;have wp1:IntKind.i64.wrap (p:Int)=(p:Int):=IntWalk.i64_in _ (by omega);have wq1:IntKind.i64.wrap (q:Int)=(q:Int):=IntWalk.i64_in _ (by omega);have wq2:IntKind.i64.wrap (a:Int)=(a:Int):=IntWalk.i64_in _ (by omega);have hn0:¬(X.m.length:Int)=0:=by omega
 have hn00:((X.m.length:Int)==0)=false:=bn_ hn0;have hai:(a:Int)<(X.m.length:Int):=by omega
 have ha0:(0:Int)<=(a:Int):=by omega
 have ws:IntKind.i64.wrap ((sz:Int)+1)=(sz:Int)+1:=IntWalk.i64_in _ (by omega);have es:Int.tmod (q:Int) ((sz:Int)+1)=((q % (sz+1):Nat):Int):=(Int.ofNat_tmod q (sz+1)).symm;have hs0:¬((sz:Int)+1)=0:=by omega
 have hs00:(((sz:Int)+1)==0)=false:=bn_ hs0;have hk2:q % (sz+1)<=q:=Nat.mod_le _ _;have wk:IntKind.i64.wrap ((q % (sz+1):Nat):Int)=((q % (sz+1):Nat):Int):=IntWalk.i64_in _ (by omega);generalize q % (sz+1)=k2 at *;generalize has X.m a=ha at *;clear h hb1 hm hW hk2
 go_enter Tryz.func12,Tryz.ntmps12
 go_upto_region 1 with fail
 generalize ((w.alloc (.cells #[.int .u8 p,.int .u8 q] 24)).alloc (.cells #[.int .i64 0,.int .i64 0] 30)).alloc (.cells #[.int .i64 0,.int .i64 0] 31)=w1 at *;obtain⟨c0,c1,c2,hlt⟩:=cells3 H1.o.blk;rw[hv]at c2;obtain⟨b0,b1⟩:=bz_ HX1.o;have hbl:=HX1.o.lt;have D0:=lc_ c2 hlt;have D1:=lc_ b0 hbl;refine af_ (by kernel_rfl) (by kernel_rfl) ?_;repeat (go_big_quiet_step (fail))
 refine wq_ (fun dq=>?_);have HD2:=hi_ dq.h;clear D0 D1 c0 c1 c2 b0 b1 hlt hbl;generalize dq.w=w2 at *;have HB2:=bt_ HB1 HD2.o;have H2:=hi_ (H1.o.below HD2.o);have HY1:=hi_ (HX1.o.below HD2.o);have HY2:=hi_ (HX2.o.below HD2.o);have HY3:=hi_ (HX3.o.below HD2.o);clear HX1 HX2 HX3 H1 HB1 HD2 dq;obtain⟨c0,c1,c2,hlt⟩:=cells3 H2.o.blk;rw[hv]at c2;obtain⟨b0,b1⟩:=bz_ HY1.o;have hbl:=HY1.o.lt;have Q:=hi_ (QH.o w2 H2.o.model);try rw[ek2]
 try rw[wq2]
 go_wp2_with fail
 refine Q.o.mono ?_;rintro e w2' ⟨rfl,rfl⟩
 cases ha with
 |false=>
  have HI2:Hd (k=q):=hi_ (HI.o.trans (if_neg (by decide)));have HQ2:=HY2;have HQ3:=HY3;go_upto_region 5 with fail
  have HSW:=hi_ (HSx.o w2 HB2.o);refine bH_ (fun W'=>W'.cell? ⟨X.tb,2,none⟩=some (.slice (some ⟨g,0,none⟩) X.m.length cap)/\W'.cell? ⟨g,a,none⟩=some (.int .i64 (hv1 X.T X.pos X.m a))) 13 [(0,false),(1,false),(2,false),(3,false),(4,false),(5,false),(6,false),(7,false),(8,false),(9,false),(10,false),(11,false),(12,true)] (by kernel_rfl) (by kernel_rfl) (HSx.o _ (HB2.o.drew)) ?_;iterate 12 (
   refine cP_ _ ?_ rfl (fun _ _ _ h=>h) (by rfl) ?_ ?_
   rotate_left
   focus (
    intro W' hS';obtain⟨s0,s1⟩:=hS';go_simp
    first|done|with_reducible rfl)
   simp only[Act.put,List.setIfInBounds_toArray,List.set_cons_zero,List.set_cons_succ])
  change b4_ _ _ _ _ _ _ _ (World.drew w2);obtain⟨wd,hwd⟩:∃wd,wd=World.drew w2:=⟨_,rfl⟩;have HBd:Hd (Below w.heap.size w wd):=hi_ (by rw[hwd];exact HB2.o.drew);have HYd2:Hd (Blk (w.heap.size+1) #[.int .i64 0,.int .i64 0] 30 wd):=hi_ (by rw[hwd];exact HQ2.o);have HYd3:Hd (Blk (w.heap.size+1+1) #[.int .i64 0,.int .i64 0] 31 wd):=hi_ (by rw[hwd];exact HQ3.o);rw[<-hwd];clear hwd;obtain⟨_,hfa⟩:=ae_ HYd2.o;obtain⟨_,hfb⟩:=ae_ HYd3.o;have fa0:wd.frozen? ⟨w.heap.size+1,0,none⟩=false:=hfa 0 (by show 0<2;omega);have fa1:wd.frozen? ⟨w.heap.size+1,1,none⟩=false:=hfa 1 (by show 1<2;omega);have fb0:wd.frozen? ⟨w.heap.size+1+1,0,none⟩=false:=hfb 0 (by show 0<2;omega)
  have fb1:wd.frozen? ⟨w.heap.size+1+1,1,none⟩=false:=hfb 1 (by show 1<2;omega);have hla:=HYd2.o.lt;have hlb:=HYd3.o.lt;clear hfa hfb;have HW1:=hi_ (((HBd.o).setCell (p:=⟨w.heap.size+1,0,none⟩) (by show w.heap.size<=w.heap.size+1;omega) (.int .i64 a)).setCell (p:=⟨w.heap.size+1,1,none⟩) (by show w.heap.size<=w.heap.size+1;omega) (.int .i64 q));have HW2:=hi_ (((HW1.o).setCell (p:=⟨w.heap.size+1+1,0,none⟩) (by show w.heap.size<=w.heap.size+1+1;omega) (.int .i64 (hv1 X.T X.pos X.m a))).setCell (p:=⟨w.heap.size+1+1,1,none⟩) (by show w.heap.size<=w.heap.size+1+1;omega) (.int .i64 q));have HV1:=hi_ ((hF_ HYd2.o (.int .i64 a) (.int .i64 q)).far (k:=w.heap.size+1+1) (by omega) 0 (.int .i64 (hv1 X.T X.pos X.m a)) |>.far (k:=w.heap.size+1+1) (by omega) 1 (.int .i64 q))
  have HV2:=hi_ (hF_ (((HYd3.o).far (k:=w.heap.size+1) (by omega) 0 (.int .i64 a)).far (k:=w.heap.size+1) (by omega) 1 (.int .i64 q)) (.int .i64 (hv1 X.T X.pos X.m a)) (.int .i64 q));refine co_ _ rfl (fun K hK=>?_);go_simp
  refine hK _ _ (HSx.o _ HW1.o) ?_;clear hK K;show wpList _ _ _ _ _ _;simp only[List.drop_succ_cons,List.drop_zero];go_wp2_with fail
  generalize ((((wd.setCell ⟨w.heap.size+1,0,none⟩ (.int .i64 a)).setCell ⟨w.heap.size+1,1,none⟩ (.int .i64 q)).setCell ⟨w.heap.size+1+1,0,none⟩ (.int .i64 (hv1 X.T X.pos X.m a))).setCell ⟨w.heap.size+1+1,1,none⟩ (.int .i64 q))=WR at *;obtain⟨r0,r1⟩:=bz_ HV1.o;obtain⟨r2,r3⟩:=bz_ HV2.o
  (try simp only[Exit.inBlock,Exit.then])
  refine bodyPost_ret (v:=.tuple #[.agg #[.int .i64 a,.int .i64 q],.agg #[.int .i64 (hv1 X.T X.pos X.m a),.int .i64 q]]) (by simp[results,Tryz.results12,go_sem,r0,r1,r2,r3]) rfl ⟨by rw[HI2.o];rfl,HW2.o⟩
 |true=>
  have HI2:Hd (k=k2):=hi_ (HI.o.trans (if_pos rfl));have QSz:=hi_ (QS.o w2 H2.o.model);go_wp2_with fail
  refine QSz.o.mono ?_;rintro e w3 ⟨rfl,hb3⟩;have HB3:=bt_ HB2 hb3;have HQ2:=hi_ (HY2.o.below hb3);have HQ3:=hi_ (HY3.o.below hb3);clear hb3 QSz;go_upto_region 5 with fail
  try rw[es]
  try rw[wk]
  have HSW:=hi_ (HSx.o w3 HB3.o);refine bH_ (fun W'=>W'.cell? ⟨X.tb,2,none⟩=some (.slice (some ⟨g,0,none⟩) X.m.length cap)/\W'.cell? ⟨g,a,none⟩=some (.int .i64 (hv1 X.T X.pos X.m a))) 13 [(0,false),(1,false),(2,false),(3,false),(4,false),(5,false),(6,false),(7,false),(8,false),(9,false),(10,false),(11,false),(12,true)] (by kernel_rfl) (by kernel_rfl) (HSx.o _ (HB3.o.drew)) ?_;iterate 12 (
   refine cP_ _ ?_ rfl (fun _ _ _ h=>h) (by rfl) ?_ ?_
   rotate_left
   focus (
    intro W' hS';obtain⟨s0,s1⟩:=hS';go_simp
    first|done|with_reducible rfl)
   simp only[Act.put,List.setIfInBounds_toArray,List.set_cons_zero,List.set_cons_succ])
  change b4_ _ _ _ _ _ _ _ (World.drew w3);obtain⟨wd,hwd⟩:∃wd,wd=World.drew w3:=⟨_,rfl⟩;have HBd:Hd (Below w.heap.size w wd):=hi_ (by rw[hwd];exact HB3.o.drew);have HYd2:Hd (Blk (w.heap.size+1) #[.int .i64 0,.int .i64 0] 30 wd):=hi_ (by rw[hwd];exact HQ2.o);have HYd3:Hd (Blk (w.heap.size+1+1) #[.int .i64 0,.int .i64 0] 31 wd):=hi_ (by rw[hwd];exact HQ3.o);rw[<-hwd];clear hwd;obtain⟨_,hfa⟩:=ae_ HYd2.o;obtain⟨_,hfb⟩:=ae_ HYd3.o;have fa0:wd.frozen? ⟨w.heap.size+1,0,none⟩=false:=hfa 0 (by show 0<2;omega);have fa1:wd.frozen? ⟨w.heap.size+1,1,none⟩=false:=hfa 1 (by show 1<2;omega);have fb0:wd.frozen? ⟨w.heap.size+1+1,0,none⟩=false:=hfb 0 (by show 0<2;omega)
  have fb1:wd.frozen? ⟨w.heap.size+1+1,1,none⟩=false:=hfb 1 (by show 1<2;omega);have hla:=HYd2.o.lt;have hlb:=HYd3.o.lt;clear hfa hfb;have HW1:=hi_ (((HBd.o).setCell (p:=⟨w.heap.size+1,0,none⟩) (by show w.heap.size<=w.heap.size+1;omega) (.int .i64 a)).setCell (p:=⟨w.heap.size+1,1,none⟩) (by show w.heap.size<=w.heap.size+1;omega) (.int .i64 k2));have HW2:=hi_ (((HW1.o).setCell (p:=⟨w.heap.size+1+1,0,none⟩) (by show w.heap.size<=w.heap.size+1+1;omega) (.int .i64 (hv1 X.T X.pos X.m a))).setCell (p:=⟨w.heap.size+1+1,1,none⟩) (by show w.heap.size<=w.heap.size+1+1;omega) (.int .i64 k2));have HV1:=hi_ ((hF_ HYd2.o (.int .i64 a) (.int .i64 k2)).far (k:=w.heap.size+1+1) (by omega) 0 (.int .i64 (hv1 X.T X.pos X.m a)) |>.far (k:=w.heap.size+1+1) (by omega) 1 (.int .i64 k2))
  have HV2:=hi_ (hF_ (((HYd3.o).far (k:=w.heap.size+1) (by omega) 0 (.int .i64 a)).far (k:=w.heap.size+1) (by omega) 1 (.int .i64 k2)) (.int .i64 (hv1 X.T X.pos X.m a)) (.int .i64 k2));refine co_ _ rfl (fun K hK=>?_);go_simp
  refine hK _ _ (HSx.o _ HW1.o) ?_;clear hK K;show wpList _ _ _ _ _ _;simp only[List.drop_succ_cons,List.drop_zero];go_wp2_with fail
  generalize ((((wd.setCell ⟨w.heap.size+1,0,none⟩ (.int .i64 a)).setCell ⟨w.heap.size+1,1,none⟩ (.int .i64 k2)).setCell ⟨w.heap.size+1+1,0,none⟩ (.int .i64 (hv1 X.T X.pos X.m a))).setCell ⟨w.heap.size+1+1,1,none⟩ (.int .i64 k2))=WR at *;obtain⟨r0,r1⟩:=bz_ HV1.o;obtain⟨r2,r3⟩:=bz_ HV2.o
  (try simp only[Exit.inBlock,Exit.then])
  refine bodyPost_ret (v:=.tuple #[.agg #[.int .i64 a,.int .i64 k2],.agg #[.int .i64 (hv1 X.T X.pos X.m a),.int .i64 k2]]) (by simp[results,Tryz.results12,go_sem,r0,r1,r2,r3]) rfl ⟨by rw[HI2.o];rfl,HW2.o⟩
end A
end
section
open Go.RowKit Go.Sort
namespace A
open H G R
structure Good(X:Tw):Prop where
 mm:X.M.m=X.m
 whole:Whole X.m
 attrs:∀i,(nd X.m i).attrs.length<=62
 ok:dk_ (cR_ 60) X.m
 len:X.m.length<=300
theorem cR_.up{k:Nat}{x:List (List UInt8×List UInt8)×List UInt8}(h:cR_ k x):∀d,cR_ (k+d) x
 |0=>h
 |d+1=>(cR_.up h d).more
theorem start_(os:List G.Op)(v:Value)(w:World)(h:fA_ w v os)(hfew:few os=true)(hf:∀o,o∈os->o.fits)(ht:fz_ w) :
  Calls Tryz.prog 11 #[v] w fun e w'=>∃X,e=.returned (.pointer (some ⟨X.tb,0,none⟩))/\bu_ w w' X/\Good X:=by
 refine(start11 os v w h hfew hf ht).mono ?_;rintro e w' ⟨X,rfl,hX,hm,_,⟨i,hi,ha⟩,hl,_,_⟩;have ha60:dk_ (cR_ 60) X.m:=fun j=>by
  have h1:=cR_.up (ha j) (60-i)
  rwa [show i+(60-i)=60 by omega]at h1
 refine⟨X,rfl,hX,hm,fun j=>⟨?_,(ha60 j).2.1⟩,fun j=>(ha60 j).1,ha60,hl⟩;have h1:(nd X.m j).data.length<=120*(60+1):=(ha60 j).2.2;omega
def bh_.zero(sb:Nat):bh_:=⟨sb,.slice none 0 0,[],.slice none 0 0,[],0,sb⟩
theorem an_.new(w:World):an_ (w.alloc (.cells #[.slice none 0 0,.slice none 0 0,.int .i64 0] 50)) (bh_.zero w.heap.size):=
 ⟨Blk.new w _ _,World.ownsRow_nil _ _ _ _,World.ownsRow_nil _ _ _ _,⟨Nat.zero_le _,Nat.zero_le _⟩,⟨Int.le_refl _,by show(0:Int)<=10000;omega⟩,nl_⟩
theorem bh_.zero_foot{sb k:Nat}(h:(bh_.zero sb).foot k):sb<=k:=by
 rcases h with e|e|e
 ·exact Nat.le_of_eq e.symm
 ·cases e
 cases e
theorem iu_:Whole [aG_]:=fun i=>by
 cases i with
 |zero=>exact⟨by show([]:List UInt8).length<=_;simp,rfl⟩
 |succ i=>exact⟨by show([]:List UInt8).length<=_;simp,rfl⟩
theorem iv_:∀i,(nd [aG_] i).attrs.length<=100000:=fun i=>by
 cases i with
 |zero=>exact Nat.zero_le _
 |succ i=>exact Nat.zero_le _
theorem awake9(w:World):Calls Tryz.prog 9 #[] w fun e w'=>e=.returned (.bool true)/\Below w.heap.size w w':=by
 have QN:=hi_ (fun W=>new2_ 0 0 W)
 go_enter Tryz.func9,Tryz.ntmps9
 go_wp2_with fail
 refine(QN.o _).mono ?_;rintro e w1 ⟨T,rfl,hb1,hT1,_⟩;have HB1:=hi_ hb1;have HT1:=hi_ hT1;have hda:=(Below.refl w1.heap.size w1).alloc (nl_) (.cells #[.slice none 0 0,.slice none 0 0,.int .i64 0] 50);have HDa:=hi_ hda;have HS0:=hi_ (an_.new w1);have HT2:=hi_ (hT1.below hda);have hblk:=HT2.o.mem.blk;unfold gO_ at hblk;obtain⟨hc,hf⟩:=ae_ hblk;have c5:=hc 5;have htl:=hblk.lt;have hroot:T.root=hd T (fun _=>0) 0:=hT1.fits.root;have hz:ns_ T [aG_] (fun _=>0) T.root 0 0:=Or.inl ⟨0,rfl,hroot,rfl⟩;have QCr:=hi_ (iz_ T [aG_] (fun _=>0) (bh_.zero w1.heap.size) T.root 0 _ HT2.o HS0.o (hl_ iu_ iv_) hz (by show 0<10000;omega) (by show(0:Int)<10000;omega));have HRt:=hi_ hroot
 have c5':(w1.alloc (.cells #[.slice none 0 0,.slice none 0 0,.int .i64 0] 50)).cell? ⟨T.tb,5,none⟩=some (.int .i64 T.root):=c5;unfold be_ at QCr;clear hda hblk hc hf c5 hb1 hT1 QN hroot hz;go_wp2_with fail
 refine QCr.o.mono ?_;rintro e w3 ⟨v,rfl,hf3,hs3,hv3⟩;have HD3:=hi_ (HDa.o.trans (hf3.below (B:=w1.heap.size) (fun k hk=>bh_.zero_foot hk) HDa.o.size));have HT3:=hi_ (HT1.o.below HD3.o);have HOk:Hd (SetOk T [aG_] (fun _=>0) { bh_.zero w1.heap.size with rv:=v,rs:=[]++[⟨0+1,T.root,0,T.root,0⟩],last:=0+1 }):=hi_
  ⟨(fun r hr => by
    obtain rfl:r=⟨0+1,T.root,0,T.root,0⟩:=by simpa using hr
    exact⟨(0,0),(0,0),⟨HRt.o,rfl,HRt.o,rfl⟩,⟨rfl,rfl⟩,⟨Nat.zero_le _,Nat.zero_le _⟩,rfl,by decide⟩),
   (fun x hx=>by cases hx),(fun i hi=>by
    obtain rfl:i=0:=by simpa using hi
    show(0:Int)<0+1
    omega),(fun i hi=>by cases hi),(fun r hr=>by
    obtain rfl:r=⟨0+1,T.root,0,T.root,0⟩:=by simpa using hr
    exact Int.le_refl _),(fun x hx=>by cases hx)⟩
 have QV:=hi_ (oM_ T [aG_] (fun _=>0) _ w3 HT3.o hs3 iu_ iv_ (by show 1<=2000;omega) HOk.o);have e1:(bh_.zero w1.heap.size).last+1=1:=rfl;rw[e1];clear hf3 hs3 hv3 QCr c5';go_wp2_with fail
 refine QV.o.mono ?_;rintro e w4 ⟨rfl,hb4⟩;have HB4:=hi_ ((HB1.o.trans (HD3.o.mono HB1.o.size)).trans (hb4.mono (Nat.le_trans HB1.o.size HD3.o.size)));clear hb4 QV;go_wp2_with fail
 go_ret
 exact⟨rfl,HB4.o⟩
end A
end
section
open Go.ChangeShapes Go.WideShapes Go.RowKit
namespace A
open H G R
def lK_(p:Nat×Nat):List Value:=[.int .u8 p.1,.int .u8 p.2]
def ey_(w:World)(v:Value)(l:List (Nat×Nat)):Prop:=
 ∃ao cap,v=.slice ao l.length cap/\(0<l.length->∃b off,ao=some ⟨b,off,none⟩/\b<w.heap.size/\∀j (hj:j<l.length) k,k<2->w.cell? ⟨b,off+j*2+k,none⟩=(lK_ l[j])[k]?)
theorem ey_.below{w w':World}{v:Value}{l:List (Nat×Nat)}(h:ey_ w v l)(hb:Below w.heap.size w w'):ey_ w' v l:=by
 obtain⟨ao,cap,hv,h⟩:=h;refine⟨ao,cap,hv,fun hl=>?_⟩;obtain⟨b,off,e,hlt,hc⟩:=h hl;refine⟨b,off,e,Nat.lt_of_lt_of_le hlt hb.size,fun j hj k hk=>?_⟩;rw[<-hc j hj k hk];have:=hb.block b hlt;simp only[World.cell?,this]
theorem ey_.at{w:World}{ao:Option Addr}{n cap:Nat}{l:List (Nat×Nat)}(h:ey_ w (.slice ao n cap) l)(hl:0<l.length):∃b off,ao=some ⟨b,off,none⟩/\b<w.heap.size/\∀j (hj:j<l.length),w.cell? ⟨b,off+j*2,none⟩=some (.int .u8 (l[j].1:Nat))/\w.cell? ⟨b,off+j*2+1,none⟩=some (.int .u8 (l[j].2:Nat)):=by
 obtain⟨ao',cap',hv,h⟩:=h;injection hv with h1 h2 h3
 subst h1;obtain⟨b,off,e,hlt,hc⟩:=h hl;exact⟨b,off,e,hlt,fun j hj=>⟨hc j hj 0 (by omega),hc j hj 1 (by omega)⟩⟩
section
variable {H:Type} {enc:TypeId×Value->H} {W:World}
theorem ja_{ao:Option Addr}{len cap:Nat}{d:DataW H}{p:List MemPlace}
  (h:∃fuel,DataW.trod enc Tryz.prog W 0 (fun _=>true) true fuel 76 (Value.slice ao len cap).cells.toList=some (d,p)) (hlt:∀x∈p,x.block<W.heap.size) :
  ∃l:List (Nat×Nat),len=l.length/\l.length<=9223372036854775807/\ey_ W (.slice ao len cap) l/\∀q,q∈l->q.1<256/\q.2<256:=by
 obtain⟨fuel,hf⟩:=h;have c2:Tryz.prog.cellsOf 24 = 2:=by kernel_rfl
 rcases Go.Deep.open_slice Tryz.underlying76 hf with⟨hcs,_⟩|⟨a,len',cap',m,n,D,Pl,hcs,_,hl,hm,hmm,hx,hel⟩
 ·simp[Value.cells]at hcs
  obtain⟨rfl,rfl,rfl⟩:=hcs;exact⟨[],rfl,by simp,⟨none,0,rfl,fun h=>by simp at h⟩,fun o ho=>by cases ho⟩
 simp[Value.cells]at hcs;obtain⟨rfl,rfl,rfl⟩:=hcs;simp only[if_true]at hmm;have hmm2:=hmm.symm;subst hmm2;rw[c2]at hx hel;have each:∀i,i<cap->∃q:Nat×Nat,(q.1<256/\q.2<256)/\∀k,k<2->W.cell? ((a.add (i*2)).add k)=(lK_ q)[k]?:=by
  intro i hi;obtain⟨cs,h1,h2⟩:=hel i hi;obtain⟨hcl,_,h3⟩:=World.cells?_some h1;have e:(cs.drop 0).take 2=cs:=by rw[List.drop_zero,List.take_of_length_le (by omega)]
  rw[<-e]at h2;obtain⟨x,y,hx,hy,e0,e1⟩:=spot_at h2;refine⟨(x,y),⟨hx,hy⟩,fun k hk=>(h3 k (by omega)).trans ?_⟩
  match k,hk with
  |0,_=>exact e0
  |1,_=>exact e1
 obtain⟨f,hfn⟩:=Go.Deep.choose_lt each;have hlen:((List.range len).map f).length=len:=by simp
 unfold maxLen at hm;refine⟨(List.range len).map f,hlen.symm,by rw[hlen];omega,⟨some a,cap,by rw[hlen],fun hpos=>?_⟩,fun o ho=>?_⟩
 ·rw[hlen]at hpos
  obtain⟨b,off,spot⟩:=a;have h0:=(hfn 0 (by omega)).2 0 (by omega);have hspot:spot=none:=by
   have h1:W.cell? (((⟨b,off,spot⟩:Addr).add (0*2)).add 0)=some (.int .u8 ((f 0).1:Nat)):=h0;simpa[Addr.add]using World.cell?_spot h1
  subst hspot;have hbW:b<W.heap.size:=by
   simp only[Prod.mk.injEq]at hx;refine hlt (.cell b off) ?_;rw[hx.2];exact List.mem_append_left _ (MemPlace.mem_row.2 ⟨0,by omega,by simp⟩)
  refine⟨b,off,rfl,hbW,fun j hj k hk=>?_⟩;rw[hlen]at hj;have h1:=(hfn j (by omega)).2 k hk;rw[Go.Deep.add_add]at h1;rw[show((⟨b,off,none⟩:Addr).add (j*2+k))=⟨b,off+j*2+k,none⟩ by simp[Addr.add,Nat.add_assoc]]at h1;rw[h1];simp
 obtain⟨i,hi,rfl⟩:=List.mem_map.1 ho;exact(hfn i (by have:=List.mem_range.1 hi;omega)).1
end
end A
end
section
open Go.RowKit Go.Sort
namespace A
open H G R
end A
end
end Go.Proofs.YtinphfpdfodkkaaGreatDoor
