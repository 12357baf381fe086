/- Texts. -/
import Derived.Test.YtinphfpdfodkkaaGreatDoorP33
import Derived.Test.YtinphfpdfodkkaaGreatDoorP44
import Derived.Test.YtinphfpdfodkkaaGreatDoorP41
import Derived.Test.YtinphfpdfodkkaaGreatDoorP43
import Derived.Test.YtinphfpdfodkkaaGreatDoorP42
import Derived.Test.YtinphfpdfodkkaaGreatDoorP38
import Derived.Test.YtinphfpdfodkkaaGreatDoorP34
import Derived.Test.YtinphfpdfodkkaaGreatDoorP35
import Derived.Test.YtinphfpdfodkkaaGreatDoorP31
import Derived.Deep.Slices
import Derived.OpenShut
set_option linter.unusedVariables false
set_option linter.unusedSimpArgs false
set_option maxHeartbeats 8000000
set_option maxRecDepth 100000
namespace Go.Proofs.YtinphfpdfodkkaaGreatDoor
section
open Go.RowKit Go.Sort
namespace G
def jm_(o:Op):Bool:=decide (o.s.length<=40) && decide (o.t.length<=40)
def few(os:List Op):Bool:=os.all jm_ && decide (os.length<=60)
end G
namespace A
open H G R
def hz_(o:G.Op):List Value:=[.int .u8 o.kind,.int .u8 o.a,.int .u8 o.b,.int .u8 o.c,.string ⟨o.s.toArray⟩,.string ⟨o.t.toArray⟩,.int .i8 o.n,.int .i8 o.k]
def f8_(w:World)(v:Value)(os:List G.Op):Prop:=
 ∃ao cap,v=.slice ao os.length cap/\(0<os.length->∃b off,ao=some ⟨b,off,none⟩/\b<w.heap.size/\∀j (hj:j<os.length) k,k<8->w.cell? ⟨b,off+j*8+k,none⟩=(hz_ os[j])[k]?)
theorem f8_.below{w w':World}{v:Value}{os:List G.Op}(h:f8_ w v os)(hb:Below w.heap.size w w'):f8_ w' v os:=by
 obtain⟨ao,cap,hv,h⟩:=h;refine⟨ao,cap,hv,fun hl=>?_⟩;obtain⟨b,off,e,hlt,hc⟩:=h hl;refine⟨b,off,e,Nat.lt_of_lt_of_le hlt hb.size,fun j hj k hk=>?_⟩;rw[<-hc j hj k hk];have:=hb.block b hlt;simp only[World.cell?,this]
theorem f8_.at{w:World}{ao:Option Addr}{n cap:Nat}{os:List G.Op}(h:f8_ w (.slice ao n cap) os)(hl:0<os.length):∃b off,ao=some ⟨b,off,none⟩/\b<w.heap.size/\∀j (hj:j<os.length) k,k<8->w.cell? ⟨b,off+j*8+k,none⟩=(hz_ os[j])[k]?:=by
 obtain⟨ao',cap',hv,h⟩:=h;injection hv with h1 h2 h3
 subst h1;exact h hl
theorem few_all{os:List G.Op}(h:∀o,o∈os->jm_ o=true):few os=decide (os.length<=60):=by
 unfold few;rw[List.all_eq_true.2 h,Bool.true_and]
theorem l5_{os:List G.Op}{o:G.Op}(ho:o∈os)(h:jm_ o=false):few os=false:=by
 unfold few;have:os.all jm_=false:=by
  rw[Bool.eq_false_iff];intro e;have:=List.all_eq_true.1 e o ho;rw[h]at this
  cases this
 rw[this,Bool.false_and]
theorem few_(os:List G.Op)(v:Value)(w:World)(h:f8_ w v os)(hl:os.length<=9223372036854775807) :
  Calls Tryz.prog 10 #[v] w fun e w'=>e=.returned (.bool (few os))/\w=w':=by
 obtain⟨ao,cap,hv,_⟩:=id h;subst hv;have HR:=hi_ h;clear h;obtain⟨R,hR⟩:∃R,R=few os:=⟨_,rfl⟩;have HRr:=hi_ hR;rw[<-hR];clear hR
 go_enter Tryz.func10,Tryz.ntmps10
 go_wp2_with fail
 go_loopw [3] (fun v3 wr=>∃i:Nat,v3=.int .i64 (i:Nat)/\i<=os.length/\wr=w/\Hid (∀j (hj:j<os.length),j<i->jm_ os[j]=true))
  (fun v3 _=>os.length-(Go.RowKit.intOf v3).toNat)
 case atStart=>exact⟨0,rfl,Nat.zero_le _,rfl,hi_ (fun j _ hj=>by omega)⟩
 case round=>
  obtain⟨i,rfl,hi,rfl,HI⟩:=hrel
  rcases Nat.lt_or_ge i os.length with hlt|hge
  ·have hii:(i:Int)<(os.length:Int):=by omega
   have hi0:(0:Int)<=(i:Int):=by omega
   obtain⟨g,off,e1,hgl,hcc⟩:=HR.out.at (by omega);subst e1;have c4':wr.cell? ⟨g,off+i*8+4,none⟩=some (.string ⟨os[i].s.toArray⟩):=hcc i hlt 4 (by omega);have c5':wr.cell? ⟨g,off+i*8+5,none⟩=some (.string ⟨os[i].t.toArray⟩):=hcc i hlt 5 (by omega);clear hcc;have HIm:=hi_ (List.getElem_mem hlt);have HNx:Hid (jm_ os[i]=true->∀j (hj:j<os.length),j<i+1->jm_ os[j]=true):=hi_ (fun ho j hj hj2=>by
    rcases Nat.lt_or_ge j i with h1|h1
    ·exact HI.out j hj h1
    ·have:j=i:=by omega
     subst this;exact ho)
   generalize os[i]=o at *
   by_cases hs:o.s.length<=40
   ·have hs2:decide ((40:Int)<(o.s.length:Int))=false:=decide_eq_false (by omega)
    by_cases ht:o.t.length<=40
    ·have ht2:decide ((40:Int)<(o.t.length:Int))=false:=decide_eq_false (by omega)
     have HN2:=hi_ (HNx.out (by unfold jm_;rw[decide_eq_true hs,decide_eq_true ht];rfl));clear hs ht;go_wp2_with fail
     go_roundw
     case rel=>exact⟨i+1,by go_num,by omega,trivial,HN2⟩
     case measure=>simp[Go.RowKit.intOf];omega
    ·have ht2:decide ((40:Int)<(o.t.length:Int))=true:=decide_eq_true (by omega)
     have HB:Hid (R=false):=hi_ (HRr.out.trans (l5_ HIm.out (by unfold jm_;rw[decide_eq_true hs,decide_eq_false ht];rfl)));clear hs ht;go_wp2_with fail
     exact bodyPost_ret (v:=.bool false) (by simp[results,Tryz.results10,go_sem]) rfl ⟨by rw[HB.out],rfl⟩
   ·have hs2:decide ((40:Int)<(o.s.length:Int))=true:=decide_eq_true (by omega)
    have HB:Hid (R=false):=hi_ (HRr.out.trans (l5_ HIm.out (by unfold jm_;rw[decide_eq_false hs];rfl)));clear hs;go_wp2_with fail
    exact bodyPost_ret (v:=.bool false) (by simp[results,Tryz.results10,go_sem]) rfl ⟨by rw[HB.out],rfl⟩
  ·have hie:i=os.length:=by omega
   have HB:Hid (R=decide (os.length<=60)):=hi_ (HRr.out.trans (few_all (fun o ho=>by
    obtain⟨j,hj,e⟩:=List.getElem_of_mem ho;rw[<-e];exact HI.out j hj (by omega))))
   subst hie;have hnot:¬((os.length:Nat):Int)<((os.length:Nat):Int):=by omega
   have HE:Hid (decide ((os.length:Int)<=60)=decide (os.length<=60)):=hi_ (by congr 1;exact propext ⟨fun h=>by omega,fun h=>by omega⟩);go_wp2_with fail
   exact bodyPost_ret (v:=.bool (decide ((os.length:Int)<=60))) (by simp[results,Tryz.results10,go_sem]) rfl ⟨by rw[HB.out,HE.out],rfl⟩
end A
end
section
open Go.RowKit Go.Sort
namespace A
open H G R
theorem do_(w0 w:World)(X:Tw)(o:G.Op)(k:Nat)(h:be_ w0 w X)(hF:Fit w0 X o k) :
  Calls Tryz.prog 24 #[.pointer (some ⟨X.tb,0,none⟩),opV o] w fun e w'=>i2_ w0 w X o e w':=by
 have hlt:o.kind % 10<10:=Nat.mod_lt _ (by omega)
 by_cases k0:o.kind % 10<3
 ·exact do012 w0 w X o k h hF k0
 by_cases k3:o.kind % 10=3
 ·cases hA:has X.m (o.at_ X.m) with
  |false=>exact do3_1 w0 w X o k h hF k3 hA
  |true=>
   cases hB:has X.m (o.bt X.m) with
   |false=>exact do3_2 w0 w X o k h hF k3 hA hB
   |true=>
    cases hC:o.ct X.m with
    |none=>exact do3_4 w0 w X o k h hF k3 hA hB hC
    |some ci=>
     cases hI:has X.m ci with
     |false=>exact do3_3 w0 w X o k h hF k3 hA hB ci hC hI
     |true=>exact do3_5 w0 w X o k h hF k3 hA hB ci hC hI
 by_cases k4:o.kind % 10=4
 ·exact do4 w0 w X o k h hF k4
 by_cases k5:o.kind % 10=5
 ·exact do5 w0 w X o k h hF k5
 by_cases k6:o.kind % 10=6
 ·exact do6 w0 w X o k h hF k6
 by_cases k7:o.kind % 10=7
 ·exact do7 w0 w X o k h hF k7
 by_cases k8:o.kind % 10=8
 ·exact do8 w0 w X o k h hF k8
 have k9:o.kind % 10=9:=by omega
 cases hA:has X.m (o.at_ X.m) with
 |false=>exact do9_1 w0 w X o k h hF k9 hA
 |true=>exact do9_2 w0 w X o k h hF k9 hA
end A
end
section
open Go.RowKit Go.Sort
namespace G
def jV_:List Op->aa_->aa_
 |[],m=>m
 |o :: os,m=>if m.length<120 then jV_ os (step none m o).2.2 else m
theorem k3_{os:List Op}{m:aa_}(h:¬m.length<120):jV_ os m=m:=by
 cases os with
 |nil=>rfl
 |cons o os=>rw[jV_,if_neg h]
def Op.fits(o:Op):Prop:=(o.kind<256/\o.a<256/\o.b<256/\o.c<256)/\(-128<=o.n/\o.n<=127)/\(-128<=o.k/\o.k<=127)
end G
namespace A
open H G R
theorem fit_run{w wr:World}{X:Tw}{o:G.Op}{i:Nat}(h:be_ w wr X)(hM:X.M.m=X.m)(hl:X.m.length<120)(hi:i<60)(hok:du_ (cT_ i) X.m)(ho:jm_ o=true)(hf:o.fits)(ht:fi_ w):Fit w X o i/\G.step (some 64) X.m o=G.step none X.m o:=by
 have hs:G.step (some 64) X.m o=G.step none X.m o:=i9_ (fun j=>by have:=(hok j).1;unfold bod at this;dsimp only at this;omega);unfold jm_ at ho;rw[Bool.and_eq_true,decide_eq_true_eq,decide_eq_true_eq]at ho;exact⟨⟨by omega,hok,by rw[hM];exact hok,by omega,ho.1,ho.2,hf.2.1,hf.2.2,hf.1,ht,Or.inl (by rw[hM,hs]),by rw[hM,hs];exact Sim.refl _⟩,hs⟩
end A
end
section
open Go.RowKit Go.Sort
namespace A
open H G R
theorem doc_ok:du_ (cT_ 0) [aH_]:=by
 intro j;have e:bod (nd [aH_] j)=([],[]):=by
  cases j with
  |zero=>rfl
  |succ j=>rfl
 rw[e];exact⟨by simp,rfl,by simp⟩
theorem start11(os:List G.Op)(v:Value)(w:World)(h:f8_ w v os)(hfew:few os=true)(hf:∀o,o∈os->o.fits)(ht:fi_ w) :
  Calls Tryz.prog 11 #[v] w fun e w'=>∃X,e=.returned (.pointer (some ⟨X.tb,0,none⟩))/\be_ w w' X/\X.M.m=X.m/\X.m=jV_ os [aH_]/\(∃i,i<=60/\du_ (cT_ i) X.m)/\X.m.length<=300/\X.T.bs=2/\X.T.st=2:=by
 obtain⟨ao,cap,hv,_⟩:=id h;subst hv;have HR:=hi_ h;have hfw:os.all jm_=true/\os.length<=60:=by
  unfold few at hfew;rw[Bool.and_eq_true,decide_eq_true_eq]at hfew;exact hfew
 have HOk:=hi_ (List.all_eq_true.1 hfw.1);have hlen:=hfw.2;have HFt:=hi_ hf;have HTb:=hi_ ht;have QS:=hi_ (fun W=>start36 2 2 W);clear h hfw hfew hf ht
 go_enter Tryz.func11,Tryz.ntmps11
 go_wp2_with fail
 refine(QS.out _).mono ?_;rintro e w1 ⟨X1,rfl,hX,hm,hM,hb,hs⟩;have H1:=hi_ (⟨hX,hm,hM,hb,hs⟩:_/\_/\_/\_/\_);obtain⟨tb,htb⟩:∃tb,tb=X1.tb:=⟨_,rfl⟩;have HTbb:=hi_ htb;rw[<-htb];clear hX hm hM hb hs QS htb;go_wp2_with fail
 go_loopw [4] (fun v4 wr=>∃(i:Nat) (X:Tw),v4=.int .i64 (i:Nat)/\i<=os.length/\Hid (X.tb=tb)/\Hid (be_ w wr X)/\Hid (X.M.m=X.m)/\Hid (jV_ (os.drop i) X.m=jV_ os [aH_])/\Hid (du_ (cT_ i) X.m)/\Hid (X.T.bs=2/\X.T.st=2)/\Hid (X.m.length<=300))
  (fun v4 _=>os.length-(Go.RowKit.intOf v4).toNat)
 case atStart=>
  exact⟨0,X1,rfl,Nat.zero_le _,hi_ HTbb.out.symm,hi_ H1.out.1,hi_ (by rw[H1.out.2.1,H1.out.2.2.1]),hi_ (by rw[H1.out.2.1];rfl),hi_ (by rw[H1.out.2.1];exact doc_ok),hi_ H1.out.2.2.2,hi_ (by rw[H1.out.2.1];exact(by decide:1<=300))⟩
 case round=>
  obtain⟨i,X,rfl,hi,HXt,HX,HXm,HRun,HAl,HBs,HLn⟩:=hrel
  rcases Nat.lt_or_ge i os.length with hlt|hge
  ·have hii:(i:Int)<(os.length:Int):=by omega
   have hi0:(0:Int)<=(i:Int):=by omega
   obtain⟨c0,c1,c2,htl⟩:=cells3 HX.out.blk;have hlp:=HX.out.pos_len;obtain⟨gh,caph,hhv,_,_,_⟩:=HX.out.toMid.cells hlp;rw[hhv]at c2;rw[HXt.out]at c0 c1 c2 htl
   by_cases hsm:X.m.length<120
   ·have hs2:decide ((X.m.length:Int)<120)=true:=decide_eq_true (by omega)
    have hsi:(X.m.length:Int)<120:=by omega
    have HRr:Hid (f8_ wr (.slice ao os.length cap) os):=hi_ (HR.out.below HX.out.bel);obtain⟨g,off,e1,hgl,hcc⟩:=HRr.out.at (by omega);subst e1;have k0:=hcc i hlt 0 (by omega);have k1:=hcc i hlt 1 (by omega);have k2:=hcc i hlt 2 (by omega);have k3:=hcc i hlt 3 (by omega);have k4:=hcc i hlt 4 (by omega);have k5:=hcc i hlt 5 (by omega);have k6:=hcc i hlt 6 (by omega);have k7:=hcc i hlt 7 (by omega);clear hcc;have hmem:os[i]∈os:=List.getElem_mem hlt;obtain⟨hF,hst⟩:=fit_run HX.out HXm.out hsm (by omega) HAl.out (HOk.out _ hmem) (HFt.out _ hmem) HTb.out;have hdr:os.drop i=os[i] :: os.drop (i+1):=List.drop_eq_getElem_cons hlt;have HRun2:Hid (jV_ (os.drop (i+1)) (G.step none X.m os[i]).2.2=jV_ os [aH_]):=hi_ (by
     have h1:=HRun.out;rw[hdr,jV_,if_pos hsm]at h1;exact h1)
    have ho40:=HOk.out _ hmem;have HAl2:Hid (du_ (cT_ (i+1)) (G.step (some 64) X.m os[i]).2.2):=hi_ (lf_ HAl.out (by
     unfold jm_ at ho40;rw[Bool.and_eq_true,decide_eq_true_eq,decide_eq_true_eq]at ho40;have:=U.gy_ os[i].t
     omega))
    have QD:=hi_ (do_ w wr X os[i] i HX.out hF);rw[HXt.out]at QD;have HSt:=hi_ hst;have HL2:Hid ((G.step (some 64) X.m os[i]).2.2.length<=300):=hi_ (by have:=mD_ HX.out.tree.fits.wf (some 64) os[i];omega);generalize os[i]=o at *;have j0:wr.cell? ⟨g,off+i*8,none⟩=some (.int .u8 o.kind):=k0;have j1:wr.cell? ⟨g,off+i*8+1,none⟩=some (.int .u8 o.a):=k1;have j2:wr.cell? ⟨g,off+i*8+2,none⟩=some (.int .u8 o.b):=k2;have j3:wr.cell? ⟨g,off+i*8+3,none⟩=some (.int .u8 o.c):=k3;have j4:wr.cell? ⟨g,off+i*8+4,none⟩=some (.string ⟨o.s.toArray⟩):=k4;have j5:wr.cell? ⟨g,off+i*8+5,none⟩=some (.string ⟨o.t.toArray⟩):=k5;have j6:wr.cell? ⟨g,off+i*8+6,none⟩=some (.int .i8 o.n):=k6;have j7:wr.cell? ⟨g,off+i*8+7,none⟩=some (.int .i8 o.k):=k7
    clear k0 k1 k2 k3 k4 k5 k6 k7 hF hst hdr ho40 hmem;unfold opV at QD;go_wp2_with fail
    refine QD.out.mono ?_;rintro e w5 ⟨v5,b5,X',rfl,hX',ht',hb',hs',_,hm',hM',_,_⟩;have HX':=hi_ hX';have HXt':Hid (X'.tb=tb):=hi_ ((congrArg Prod.fst ht').trans HXt.out);have HXm':Hid (X'.M.m=X'.m):=hi_ (by rw[hM',hm',HXm.out,HSt.out]);have HRun':Hid (jV_ (os.drop (i+1)) X'.m=jV_ os [aH_]):=hi_ (by rw[hm',HSt.out];exact HRun2.out);have HAl':Hid (du_ (cT_ (i+1)) X'.m):=hi_ (by rw[hm'];exact HAl2.out);have HBs':Hid (X'.T.bs=2/\X'.T.st=2):=hi_ ⟨hb'.trans HBs.out.1,hs'.trans HBs.out.2⟩;have HLn':Hid (X'.m.length<=300):=hi_ (by rw[hm'];exact HL2.out);clear hX' ht' hb' hs' hm' hM' QD HAl2 HRun2 HL2;go_wp2_with fail
    go_roundw
    case rel=>exact⟨i+1,X',by go_num,by omega,HXt',HX',HXm',HRun',HAl',HBs',HLn'⟩
    case measure=>simp[Go.RowKit.intOf];omega
   ·have hs2:decide ((X.m.length:Int)<120)=false:=decide_eq_false (by omega)
    have hsn:¬(X.m.length:Int)<120:=by omega
    have HEq:Hid (X.m=jV_ os [aH_]):=hi_ (by rw[<-HRun.out,k3_ hsm]);go_wp2_with fail
    refine bodyPost_ret (v:=.pointer (some ⟨tb,0,none⟩)) (by simp[results,Tryz.results11,go_sem]) rfl ⟨X,by rw[HXt.out],HX.out,HXm.out,HEq.out,⟨i,by omega,HAl.out⟩,HLn.out,HBs.out.1,HBs.out.2⟩
  ·have hie:i=os.length:=by omega
   have HEq:Hid (X.m=jV_ os [aH_]):=hi_ (by rw[<-HRun.out,hie,List.drop_length];rfl);subst hie;have hnot:¬((os.length:Nat):Int)<((os.length:Nat):Int):=by omega
   go_wp2_with fail
   refine bodyPost_ret (v:=.pointer (some ⟨tb,0,none⟩)) (by simp[results,Tryz.results11,go_sem]) rfl ⟨X,by rw[HXt.out],HX.out,HXm.out,HEq.out,⟨os.length,hlen,HAl.out⟩,HLn.out,HBs.out.1,HBs.out.2⟩
end A
end
section
open Go.ChangeShapes Go.WideShapes Go.RowKit
namespace A
open H G R
theorem wf_u8{n:Int}(h:(Lit.int .u8 n).wf=true):0<=n/\n<=255:=by
 simp[Lit.wf,IntKind.min,IntKind.max,IntKind.signed,IntKind.bits]at h;omega
theorem wf_i8{n:Int}(h:(Lit.int .i8 n).wf=true):-128<=n/\n<=127:=by
 simp[Lit.wf,IntKind.min,IntKind.max,IntKind.signed,IntKind.bits]at h;omega
theorem l0_{l:List Value}{i:Nat}{v:Value}(h:(l.drop i).take 1=[v]):l[i]?=some v:=by
 have:=congrArg (fun l:List Value=>l[0]?) h;simpa[List.getElem?_take,List.getElem?_drop]using this
section
variable {H:Type} {enc:TypeId×Value->H} {W:World}
theorem jR_{spare:Nat->Bool}{held:Bool}{n:Nat}{l:List Value}{i:Nat}{x:DataW H×List MemPlace}(h:DataW.trod enc Tryz.prog W 0 spare held n 5 ((l.drop i).take 1)=some x):∃k:Nat,k<256/\l[i]?=some (.int .u8 (k:Nat)):=by
 obtain⟨z,h1,_,h2⟩:=DataW.trod_int Tryz.underlying5 h;have h3:=wf_u8 h2;refine⟨z.toNat,by omega,?_⟩;rw[Int.toNat_of_nonneg h3.1];exact l0_ h1
theorem i8_at{spare:Nat->Bool}{held:Bool}{n:Nat}{l:List Value}{i:Nat}{x:DataW H×List MemPlace}(h:DataW.trod enc Tryz.prog W 0 spare held n 63 ((l.drop i).take 1)=some x):∃z:Int,(-128<=z/\z<=127)/\l[i]?=some (.int .i8 z):=by
 obtain⟨z,h1,_,h2⟩:=DataW.trod_int Tryz.underlying63 h;exact⟨z,wf_i8 h2,l0_ h1⟩
theorem nL_{spare:Nat->Bool}{held:Bool}{n:Nat}{l:List Value}{i:Nat}{x:DataW H×List MemPlace}(h:DataW.trod enc Tryz.prog W 0 spare held n 9 ((l.drop i).take 1)=some x):∃s:List UInt8,l[i]?=some (.string ⟨s.toArray⟩):=by
 obtain⟨s,h1,_,h2⟩:=DataW.trod_string Tryz.underlying9 h;exact⟨s.data.toList,by rw[l0_ h1]⟩
theorem op_at{spare:Nat->Bool}{held:Bool}{n:Nat}{cs:List Value}{x:DataW H×List MemPlace}(h:DataW.trod enc Tryz.prog W 0 spare held n 65 cs=some x):∃o:G.Op,o.fits/\∀k,k<8->cs[k]?=(hz_ o)[k]?:=by
 obtain⟨xs,m,_,_,hcs,hxl,hf⟩:=DataW.trod_struct Tryz.underlying65 h;have c1:Tryz.prog.cellsOf 5 = 1:=by kernel_rfl
 have c2:Tryz.prog.cellsOf 9 = 1:=by kernel_rfl
 have c3:Tryz.prog.cellsOf 63 = 1:=by kernel_rfl
 have hx8:xs.length=8:=hxl;have g0:DataW.trod enc Tryz.prog W 0 spare held m 5 ((cs.drop 0).take (Tryz.prog.cellsOf 5))=xs[0]?:=hf 0 _ rfl;have g1:DataW.trod enc Tryz.prog W 0 spare held m 5 ((cs.drop 1).take (Tryz.prog.cellsOf 5))=xs[1]?:=hf 1 _ rfl;have g2:DataW.trod enc Tryz.prog W 0 spare held m 5 ((cs.drop 2).take (Tryz.prog.cellsOf 5))=xs[2]?:=hf 2 _ rfl;have g3:DataW.trod enc Tryz.prog W 0 spare held m 5 ((cs.drop 3).take (Tryz.prog.cellsOf 5))=xs[3]?:=hf 3 _ rfl;have g4:DataW.trod enc Tryz.prog W 0 spare held m 9 ((cs.drop 4).take (Tryz.prog.cellsOf 9))=xs[4]?:=hf 4 _ rfl;have g5:DataW.trod enc Tryz.prog W 0 spare held m 9 ((cs.drop 5).take (Tryz.prog.cellsOf 9))=xs[5]?:=hf 5 _ rfl
 have g6:DataW.trod enc Tryz.prog W 0 spare held m 63 ((cs.drop 6).take (Tryz.prog.cellsOf 63))=xs[6]?:=hf 6 _ rfl;have g7:DataW.trod enc Tryz.prog W 0 spare held m 63 ((cs.drop 7).take (Tryz.prog.cellsOf 63))=xs[7]?:=hf 7 _ rfl;rw[c1,List.getElem?_eq_getElem (by omega)]at g0 g1 g2 g3;rw[c2,List.getElem?_eq_getElem (by omega)]at g4 g5;rw[c3,List.getElem?_eq_getElem (by omega)]at g6 g7;obtain⟨k0,b0,e0⟩:=jR_ g0;obtain⟨k1,b1,e1⟩:=jR_ g1;obtain⟨k2,b2,e2⟩:=jR_ g2;obtain⟨k3,b3,e3⟩:=jR_ g3;obtain⟨s4,e4⟩:=nL_ g4;obtain⟨s5,e5⟩:=nL_ g5;obtain⟨k6,b6,e6⟩:=i8_at g6;obtain⟨k7,b7,e7⟩:=i8_at g7;refine⟨⟨k0,k1,k2,k3,s4,s5,k6,k7⟩,⟨⟨b0,b1,b2,b3⟩,b6,b7⟩,fun k hk=>?_⟩
 match k,hk with
 |0,_=>exact e0
 |1,_=>exact e1
 |2,_=>exact e2
 |3,_=>exact e3
 |4,_=>exact e4
 |5,_=>exact e5
 |6,_=>exact e6
 |7,_=>exact e7
instance:Inhabited G.Op:=⟨⟨0,0,0,0,[],[],0,0⟩⟩
theorem mR_{ao:Option Addr}{len cap:Nat}{d:DataW H}{p:List MemPlace}
  (h:∃fuel,DataW.trod enc Tryz.prog W 0 (fun _=>true) true fuel 22 (Value.slice ao len cap).cells.toList=some (d,p)) (hlt:∀x∈p,x.block<W.heap.size) :
  ∃os:List G.Op,len=os.length/\os.length<=9223372036854775807/\f8_ W (.slice ao len cap) os/\∀o,o∈os->o.fits:=by
 obtain⟨fuel,hf⟩:=h;have c8:Tryz.prog.cellsOf 65 = 8:=by kernel_rfl
 rcases Go.Deep.open_slice Tryz.underlying22 hf with⟨hcs,_⟩|⟨a,len',cap',m,n,D,Pl,hcs,_,hl,hm,hmm,hx,hel⟩
 ·simp[Value.cells]at hcs
  obtain⟨rfl,rfl,rfl⟩:=hcs;exact⟨[],rfl,by simp,⟨none,0,rfl,fun h=>by simp at h⟩,fun o ho=>by cases ho⟩
 ·simp[Value.cells]at hcs
  obtain⟨rfl,rfl,rfl⟩:=hcs;simp only[if_true]at hmm;have hmm2:=hmm.symm;subst hmm2;rw[c8]at hx hel;have each:∀i,i<cap->∃o:G.Op,o.fits/\∀k,k<8->W.cell? ((a.add (i*8)).add k)=(hz_ o)[k]?:=by
   intro i hi;obtain⟨cs,h1,h2⟩:=hel i hi;obtain⟨_,_,h3⟩:=World.cells?_some h1;obtain⟨o,ho,h4⟩:=op_at h2;exact⟨o,ho,fun k hk=>(h3 k hk).trans (h4 k hk)⟩
  obtain⟨f,hfn⟩:=Go.Deep.choose_lt each;have hlen:((List.range len).map f).length=len:=by simp
  unfold maxLen at hm;refine⟨(List.range len).map f,hlen.symm,by rw[hlen];omega,⟨some a,cap,by rw[hlen],fun hpos=>?_⟩,fun o ho=>?_⟩
  ·rw[hlen]at hpos
   obtain⟨b,off,spot⟩:=a;have h0:=(hfn 0 (by omega)).2 0 (by omega);have hspot:spot=none:=by
    have h1:W.cell? (((⟨b,off,spot⟩:Addr).add (0*8)).add 0)=some (.int .u8 ((f 0).kind:Nat)):=h0;simpa[Addr.add]using World.cell?_spot h1
   subst hspot;have hbW:b<W.heap.size:=by
    simp only[Prod.mk.injEq]at hx;refine hlt (.cell b off) ?_;rw[hx.2];exact List.mem_append_left _ (MemPlace.mem_row.2 ⟨0,by omega,by simp⟩)
   refine⟨b,off,rfl,hbW,fun j hj k hk=>?_⟩;rw[hlen]at hj;have h1:=(hfn j (by omega)).2 k hk;rw[Go.Deep.add_add]at h1;rw[show((⟨b,off,none⟩:Addr).add (j*8+k))=⟨b,off+j*8+k,none⟩ by simp[Addr.add,Nat.add_assoc]]at h1;rw[h1];simp
  ·obtain⟨i,hi,rfl⟩:=List.mem_map.1 ho
   exact(hfn i (by have:=List.mem_range.1 hi;omega)).1
theorem okWide_arr{P:Program}{r:Reach}{base n:Nat}{t e:TypeId}{v:Value}(ht:P.underlying t=some (.array n e))(h:Value.okWide P W r base t v):∃cs,v=.agg cs/\cs.size=P.cellsOf t:=by
 simp only[Value.okWide,ht]at h;obtain⟨cs,h1,h2,_⟩:=h;exact⟨cs,h1,h2⟩
theorem kU_{spare:Nat->Bool}{held:Bool}{n:Nat}{l:List Value}{i:Nat}{x:DataW H×List MemPlace}(h:DataW.trod enc Tryz.prog W 0 spare held n 24 ((l.drop i).take 2)=some x):∃a b:Nat,a<256/\b<256/\l[i]?=some (.int .u8 (a:Nat))/\l[i+1]?=some (.int .u8 (b:Nat)):=by
 obtain⟨xs,m,_,_,hcl,hxl,hf⟩:=DataW.trod_array Tryz.underlying24 h;have c1:Tryz.prog.cellsOf 5 = 1:=by kernel_rfl
 have g0:DataW.trod enc Tryz.prog W 0 spare held m 5 ((((l.drop i).take 2).drop (0 * Tryz.prog.cellsOf 5)).take (Tryz.prog.cellsOf 5))=xs[0]?:=hf 0 (by omega);have g1:DataW.trod enc Tryz.prog W 0 spare held m 5 ((((l.drop i).take 2).drop (1 * Tryz.prog.cellsOf 5)).take (Tryz.prog.cellsOf 5))=xs[1]?:=hf 1 (by omega);rw[c1,List.getElem?_eq_getElem (by omega)]at g0 g1;obtain⟨a,ha,ea⟩:=jR_ g0;obtain⟨b,hb,eb⟩:=jR_ g1;refine⟨a,b,ha,hb,?_,?_⟩
 ·rw[<-ea];simp[List.getElem?_take,List.getElem?_drop]
 ·rw[<-eb];simp[List.getElem?_take,List.getElem?_drop]
theorem gq_{a b:Array Value}(h:a.toList=b.toList):a=b:=by cases a;cases b;simp at h;rw[h]
end
end A
end
section
open Go.ChangeShapes Go.WideShapes Go.RowKit
namespace A
open H G R
section
variable {H:Type} {enc:TypeId×Value->H} {W:World}
theorem iz_{base:Nat}{v:Value}{d:DataW H}{p:List MemPlace}(hv:Value.okWide Tryz.prog W .any base 62 v)(h:DataW.Trod enc Tryz.prog W 0 (fun _=>true) true 62 v d p) :
  ∃p0 q0 p1 q1:Nat,(p0<256/\q0<256/\p1<256/\q1<256)/\v=.agg #[.int .u8 (p0:Nat),.int .u8 (q0:Nat),.int .u8 (p1:Nat),.int .u8 (q1:Nat)]:=by
 obtain⟨cs,rfl,hs⟩:=okWide_arr Tryz.underlying62 hv;have c2:Tryz.prog.cellsOf 62 = 4:=by kernel_rfl
 have c3:Tryz.prog.cellsOf 24 = 2:=by kernel_rfl
 rw[c2]at hs;obtain⟨fuel,hf⟩:=h;obtain⟨xs,m,_,_,hcl,hxl,hg⟩:=DataW.trod_array Tryz.underlying62 hf;have g0:DataW.trod enc Tryz.prog W 0 (fun _=>true) true m 24 ((cs.toList.drop (0 * Tryz.prog.cellsOf 24)).take (Tryz.prog.cellsOf 24))=xs[0]?:=hg 0 (by omega);rw[c3,List.getElem?_eq_getElem (by omega)]at g0;obtain⟨p0,q0,hp0,hq0,e0,e1⟩:=kU_ g0;have g1:DataW.trod enc Tryz.prog W 0 (fun _=>true) true m 24 ((cs.toList.drop (1 * Tryz.prog.cellsOf 24)).take (Tryz.prog.cellsOf 24))=xs[1]?:=hg 1 (by omega);rw[c3,List.getElem?_eq_getElem (by omega)]at g1;obtain⟨p1,q1,hp1,hq1,e2,e3⟩:=kU_ g1;refine⟨p0,q0,p1,q1,⟨hp0,hq0,hp1,hq1⟩,?_⟩
 congr 1
 refine gq_ ?_;refine List.ext_getElem? fun i=>?_
 match i with
 |0=>exact e0
 |1=>exact e1
 |2=>exact e2
 |3=>exact e3
 |i+4=>rw[List.getElem?_eq_none (by simp;omega),List.getElem?_eq_none (by simp)]
end
end A
end
section
open Go.ChangeShapes Go.WideShapes Go.RowKit
namespace A
open H G R
theorem jZ_{P:Program}{W:World}{r:Reach}{base:Nat}{t:TypeId}{v:Value}{fs:_}(ht:P.underlying t=some (.struct fs))(h:Value.okWide P W r base t v):∃cs,v=.agg cs/\cs.size=P.cellsOf t:=by
 simp only[Value.okWide,ht]at h;obtain⟨cs,h1,h2,_⟩:=h;exact⟨cs,h1,h2⟩
section
variable {H:Type} {enc:TypeId×Value->H} {W:World}
theorem open_op{base:Nat}{v:Value}{d:DataW H}{p:List MemPlace}(hv:Value.okWide Tryz.prog W .any base 65 v)(h:DataW.Trod enc Tryz.prog W 0 (fun _=>true) true 65 v d p) :
  ∃o:G.Op,o.fits/\v=.agg #[.int .u8 o.kind,.int .u8 o.a,.int .u8 o.b,.int .u8 o.c,.string ⟨o.s.toArray⟩,.string ⟨o.t.toArray⟩,.int .i8 o.n,.int .i8 o.k]:=by
 obtain⟨cs,rfl,hs⟩:=jZ_ Tryz.underlying65 hv;have c8:Tryz.prog.cellsOf 65 = 8:=by kernel_rfl
 rw[c8]at hs;obtain⟨fuel,hf⟩:=h;obtain⟨o,ho,hc⟩:=op_at hf;refine⟨o,ho,?_⟩
 congr 1
 refine gq_ ?_;refine List.ext_getElem? fun i=>?_
 by_cases hi:i<8
 ·have h1:=hc i hi
  rw[show(cs.toList)[i]?=(hz_ o)[i]? from h1];rfl
 ·rw[List.getElem?_eq_none (by simp;omega),List.getElem?_eq_none (by simp;omega)]
end
end A
end
section
open Go.RowKit Go.Sort
namespace G
def bd_(m:aa_)(p:Nat):Nat:=p % m.length
def db_(m:aa_)(p q:Nat):Nat:=if has m (bd_ m p)=true then q % (G.sizeOf m (bd_ m p)+1)else q
end G
namespace A
open H G R
theorem ei_{g:Nat}{t:TypeId}{w:World}{a b:Value}(h:Blk g #[a,b] t w)(c d:Value):Blk g #[c,d] t ((w.setCell ⟨g,0,none⟩ c).setCell ⟨g,1,none⟩ d):=by
 have h9:=(h.set 0 c).set 1 d;simp only[List.setIfInBounds_toArray,List.set_cons_zero,List.set_cons_succ]at h9;exact h9
def le_(i k:Nat):Value:=.agg #[.int .i64 i,.int .i64 k]
theorem point_(w0 w:World)(X:Tw)(p q:Nat)(h:be_ w0 w X)(hm:X.M.m=X.m)(hW:Whole X.m)(hfw:X.m.length<=2000)(hp:p<256)(hq:q<256) :
  Calls Tryz.prog 12 #[.pointer (some ⟨X.tb,0,none⟩),.agg #[.int .u8 p,.int .u8 q]] w fun e w'=>e=.returned (.tuple #[le_ (bd_ X.m p) (db_ X.m p q),bI_ (hv1 X.T X.pos X.m (bd_ X.m p)) (db_ X.m p q:Nat)])/\Below w.heap.size w w':=by
 have hl:=h.pos_len;have n1:bd_ X.m p<X.m.length:=Nat.mod_lt _ hl;have ek2:Int.tmod (p:Int) (X.m.length:Int)=(bd_ X.m p:Int):=(Int.ofNat_tmod _ _).symm;have HI:Hid (db_ X.m p q=if has X.m (bd_ X.m p)=true then q % (G.sizeOf X.m (bd_ X.m p)+1)else q):=hi_ rfl;have QS:=hi_ (fun W (hM:ab_ W X.M)=>mSize X.M (bd_ X.m p) W hM (by rw[<-X.M.m_len,hm];exact n1) (by rw[hm];have:=(hW (bd_ X.m p)).1;omega) (by rw[hm];exact(hW (bd_ X.m p)).2));have QH:=hi_ (fun W (hM:ab_ W X.M)=>gf_ X.M (bd_ X.m p) W hM);rw[hm]at QS QH;have hsz:G.sizeOf X.m (bd_ X.m p)<=100000:=cJ_ h.tree.fits.wf hW (by omega) _;generalize db_ X.m p q=k at *;generalize bd_ X.m p=a at *;generalize G.sizeOf X.m a=sz at *
 have hb1:=((((Below.refl w.heap.size w).alloc (nl_) (.cells #[.int .u8 p,.int .u8 q] 24))).alloc (by simp) (.cells #[.int .i64 0,.int .i64 0] 30)).alloc (by simp;omega) (.cells #[.int .i64 0,.int .i64 0] 31);have HX1:=hi_ (((Blk.new w #[.int .u8 p,.int .u8 q] 24).alloc (.cells #[.int .i64 0,.int .i64 0] 30)).alloc (.cells #[.int .i64 0,.int .i64 0] 31));have HX2:=hi_ ((Blk.new (w.alloc (.cells #[.int .u8 p,.int .u8 q] 24)) #[.int .i64 0,.int .i64 0] 30).alloc (.cells #[.int .i64 0,.int .i64 0] 31))
 have HX3:=hi_ (Blk.new ((w.alloc (.cells #[.int .u8 p,.int .u8 q] 24)).alloc (.cells #[.int .i64 0,.int .i64 0] 30)) #[.int .i64 0,.int .i64 0] 31);simp only[World.size_alloc]at HX2 HX3;have H1:=hi_ (h.below hb1);have HB1:=hi_ hb1;obtain⟨g,cap,hv,_,hcap,_⟩:=h.toMid.cells hl;have HSx:Hid (∀W,Below w.heap.size w W->W.cell? ⟨X.tb,2,none⟩=some (.slice (some ⟨g,0,none⟩) X.m.length cap)/\W.cell? ⟨g,a,none⟩=some (.int .i64 (hv1 X.T X.pos X.m a))):=hi_ (fun W hb=>by
  have h2:=h.below hb;obtain⟨_,_,c2,_⟩:=cells3 h2.blk;rw[hv]at c2;exact⟨c2,(h2.toMid.get hv n1).1⟩)
 have hz1:=h.toMid.get hv n1;have hgl:=hz1.2.2;have wp1:IntKind.i64.wrap (p:Int)=(p:Int):=IntWalk.i64_in _ (by omega);have wq1:IntKind.i64.wrap (q:Int)=(q:Int):=IntWalk.i64_in _ (by omega);have wq2:IntKind.i64.wrap (a:Int)=(a:Int):=IntWalk.i64_in _ (by omega);have hn0:¬(X.m.length:Int)=0:=by omega
 have hn00:((X.m.length:Int)==0)=false:=bn_ hn0;have hai:(a:Int)<(X.m.length:Int):=by omega
 have ha0:(0:Int)<=(a:Int):=by omega
 have ws:IntKind.i64.wrap ((sz:Int)+1)=(sz:Int)+1:=IntWalk.i64_in _ (by omega);have es:Int.tmod (q:Int) ((sz:Int)+1)=((q % (sz+1):Nat):Int):=(Int.ofNat_tmod q (sz+1)).symm;have hs0:¬((sz:Int)+1)=0:=by omega
 have hs00:(((sz:Int)+1)==0)=false:=bn_ hs0;have hk2:q % (sz+1)<=q:=Nat.mod_le _ _;have wk:IntKind.i64.wrap ((q % (sz+1):Nat):Int)=((q % (sz+1):Nat):Int):=IntWalk.i64_in _ (by omega);generalize q % (sz+1)=k2 at *;generalize has X.m a=ha at *;clear h hb1 hm hW hk2
 go_enter Tryz.func12,Tryz.ntmps12
 go_upto_region 1 with fail
 generalize ((w.alloc (.cells #[.int .u8 p,.int .u8 q] 24)).alloc (.cells #[.int .i64 0,.int .i64 0] 30)).alloc (.cells #[.int .i64 0,.int .i64 0] 31)=w1 at *;obtain⟨c0,c1,c2,hlt⟩:=cells3 H1.out.blk;rw[hv]at c2;obtain⟨b0,b1⟩:=a3_ HX1.out;have hbl:=HX1.out.lt;have D0:=lc_ c2 hlt;have D1:=lc_ b0 hbl;refine af_ (by kernel_rfl) (by kernel_rfl) ?_;repeat (go_big_quiet_step (fail))
 refine wq_ (fun dq=>?_);have HD2:=hi_ dq.h;clear D0 D1 c0 c1 c2 b0 b1 hlt hbl;generalize dq.w=w2 at *;have HB2:=bt_ HB1 HD2.out;have H2:=hi_ (H1.out.below HD2.out);have HY1:=hi_ (HX1.out.below HD2.out);have HY2:=hi_ (HX2.out.below HD2.out);have HY3:=hi_ (HX3.out.below HD2.out);clear HX1 HX2 HX3 H1 HB1 HD2 dq;obtain⟨c0,c1,c2,hlt⟩:=cells3 H2.out.blk;rw[hv]at c2;obtain⟨b0,b1⟩:=a3_ HY1.out;have hbl:=HY1.out.lt;have Q:=hi_ (QH.out w2 H2.out.model);try rw[ek2]
 try rw[wq2]
 go_wp2_with fail
 refine Q.out.mono ?_;rintro e w2' ⟨rfl,rfl⟩
 cases ha with
 |false=>
  have HI2:Hid (k=q):=hi_ (HI.out.trans (if_neg (by decide)));have HQ2:=HY2;have HQ3:=HY3;go_upto_region 5 with fail
  have HSW:=hi_ (HSx.out w2 HB2.out);refine b1_ (fun W'=>W'.cell? ⟨X.tb,2,none⟩=some (.slice (some ⟨g,0,none⟩) X.m.length cap)/\W'.cell? ⟨g,a,none⟩=some (.int .i64 (hv1 X.T X.pos X.m a))) 13 [(0,false),(1,false),(2,false),(3,false),(4,false),(5,false),(6,false),(7,false),(8,false),(9,false),(10,false),(11,false),(12,true)] (by kernel_rfl) (by kernel_rfl) (HSx.out _ (HB2.out.drew)) ?_;iterate 12 (
   refine c1_ _ ?_ rfl (fun _ _ _ h=>h) (by rfl) ?_ ?_
   rotate_left
   focus (
    intro W' hS';obtain⟨s0,s1⟩:=hS';go_simp
    first|done|with_reducible rfl)
   simp only[Act.put,List.setIfInBounds_toArray,List.set_cons_zero,List.set_cons_succ])
  change cc_ _ _ _ _ _ _ _ (World.drew w2);obtain⟨wd,hwd⟩:∃wd,wd=World.drew w2:=⟨_,rfl⟩;have HBd:Hid (Below w.heap.size w wd):=hi_ (by rw[hwd];exact HB2.out.drew);have HYd2:Hid (Blk (w.heap.size+1) #[.int .i64 0,.int .i64 0] 30 wd):=hi_ (by rw[hwd];exact HQ2.out);have HYd3:Hid (Blk (w.heap.size+1+1) #[.int .i64 0,.int .i64 0] 31 wd):=hi_ (by rw[hwd];exact HQ3.out);rw[<-hwd];clear hwd;obtain⟨_,hfa⟩:=ad_ HYd2.out;obtain⟨_,hfb⟩:=ad_ HYd3.out;have fa0:wd.frozen? ⟨w.heap.size+1,0,none⟩=false:=hfa 0 (by show 0<2;omega);have fa1:wd.frozen? ⟨w.heap.size+1,1,none⟩=false:=hfa 1 (by show 1<2;omega);have fb0:wd.frozen? ⟨w.heap.size+1+1,0,none⟩=false:=hfb 0 (by show 0<2;omega)
  have fb1:wd.frozen? ⟨w.heap.size+1+1,1,none⟩=false:=hfb 1 (by show 1<2;omega);have hla:=HYd2.out.lt;have hlb:=HYd3.out.lt;clear hfa hfb;have HW1:=hi_ (((HBd.out).setCell (p:=⟨w.heap.size+1,0,none⟩) (by show w.heap.size<=w.heap.size+1;omega) (.int .i64 a)).setCell (p:=⟨w.heap.size+1,1,none⟩) (by show w.heap.size<=w.heap.size+1;omega) (.int .i64 q));have HW2:=hi_ (((HW1.out).setCell (p:=⟨w.heap.size+1+1,0,none⟩) (by show w.heap.size<=w.heap.size+1+1;omega) (.int .i64 (hv1 X.T X.pos X.m a))).setCell (p:=⟨w.heap.size+1+1,1,none⟩) (by show w.heap.size<=w.heap.size+1+1;omega) (.int .i64 q));have HV1:=hi_ ((ei_ HYd2.out (.int .i64 a) (.int .i64 q)).far (k:=w.heap.size+1+1) (by omega) 0 (.int .i64 (hv1 X.T X.pos X.m a)) |>.far (k:=w.heap.size+1+1) (by omega) 1 (.int .i64 q))
  have HV2:=hi_ (ei_ (((HYd3.out).far (k:=w.heap.size+1) (by omega) 0 (.int .i64 a)).far (k:=w.heap.size+1) (by omega) 1 (.int .i64 q)) (.int .i64 (hv1 X.T X.pos X.m a)) (.int .i64 q));refine cA_ _ rfl (fun K hK=>?_);go_simp
  refine hK _ _ (HSx.out _ HW1.out) ?_;clear hK K;show wpList _ _ _ _ _ _;simp only[List.drop_succ_cons,List.drop_zero];go_wp2_with fail
  generalize ((((wd.setCell ⟨w.heap.size+1,0,none⟩ (.int .i64 a)).setCell ⟨w.heap.size+1,1,none⟩ (.int .i64 q)).setCell ⟨w.heap.size+1+1,0,none⟩ (.int .i64 (hv1 X.T X.pos X.m a))).setCell ⟨w.heap.size+1+1,1,none⟩ (.int .i64 q))=WR at *;obtain⟨r0,r1⟩:=a3_ HV1.out;obtain⟨r2,r3⟩:=a3_ HV2.out
  (try simp only[Exit.inBlock,Exit.then])
  refine bodyPost_ret (v:=.tuple #[.agg #[.int .i64 a,.int .i64 q],.agg #[.int .i64 (hv1 X.T X.pos X.m a),.int .i64 q]]) (by simp[results,Tryz.results12,go_sem,r0,r1,r2,r3]) rfl ⟨by rw[HI2.out];rfl,HW2.out⟩
 |true=>
  have HI2:Hid (k=k2):=hi_ (HI.out.trans (if_pos rfl));have QSz:=hi_ (QS.out w2 H2.out.model);go_wp2_with fail
  refine QSz.out.mono ?_;rintro e w3 ⟨rfl,hb3⟩;have HB3:=bt_ HB2 hb3;have HQ2:=hi_ (HY2.out.below hb3);have HQ3:=hi_ (HY3.out.below hb3);clear hb3 QSz;go_upto_region 5 with fail
  try rw[es]
  try rw[wk]
  have HSW:=hi_ (HSx.out w3 HB3.out);refine b1_ (fun W'=>W'.cell? ⟨X.tb,2,none⟩=some (.slice (some ⟨g,0,none⟩) X.m.length cap)/\W'.cell? ⟨g,a,none⟩=some (.int .i64 (hv1 X.T X.pos X.m a))) 13 [(0,false),(1,false),(2,false),(3,false),(4,false),(5,false),(6,false),(7,false),(8,false),(9,false),(10,false),(11,false),(12,true)] (by kernel_rfl) (by kernel_rfl) (HSx.out _ (HB3.out.drew)) ?_;iterate 12 (
   refine c1_ _ ?_ rfl (fun _ _ _ h=>h) (by rfl) ?_ ?_
   rotate_left
   focus (
    intro W' hS';obtain⟨s0,s1⟩:=hS';go_simp
    first|done|with_reducible rfl)
   simp only[Act.put,List.setIfInBounds_toArray,List.set_cons_zero,List.set_cons_succ])
  change cc_ _ _ _ _ _ _ _ (World.drew w3);obtain⟨wd,hwd⟩:∃wd,wd=World.drew w3:=⟨_,rfl⟩;have HBd:Hid (Below w.heap.size w wd):=hi_ (by rw[hwd];exact HB3.out.drew);have HYd2:Hid (Blk (w.heap.size+1) #[.int .i64 0,.int .i64 0] 30 wd):=hi_ (by rw[hwd];exact HQ2.out);have HYd3:Hid (Blk (w.heap.size+1+1) #[.int .i64 0,.int .i64 0] 31 wd):=hi_ (by rw[hwd];exact HQ3.out);rw[<-hwd];clear hwd;obtain⟨_,hfa⟩:=ad_ HYd2.out;obtain⟨_,hfb⟩:=ad_ HYd3.out;have fa0:wd.frozen? ⟨w.heap.size+1,0,none⟩=false:=hfa 0 (by show 0<2;omega);have fa1:wd.frozen? ⟨w.heap.size+1,1,none⟩=false:=hfa 1 (by show 1<2;omega);have fb0:wd.frozen? ⟨w.heap.size+1+1,0,none⟩=false:=hfb 0 (by show 0<2;omega)
  have fb1:wd.frozen? ⟨w.heap.size+1+1,1,none⟩=false:=hfb 1 (by show 1<2;omega);have hla:=HYd2.out.lt;have hlb:=HYd3.out.lt;clear hfa hfb;have HW1:=hi_ (((HBd.out).setCell (p:=⟨w.heap.size+1,0,none⟩) (by show w.heap.size<=w.heap.size+1;omega) (.int .i64 a)).setCell (p:=⟨w.heap.size+1,1,none⟩) (by show w.heap.size<=w.heap.size+1;omega) (.int .i64 k2));have HW2:=hi_ (((HW1.out).setCell (p:=⟨w.heap.size+1+1,0,none⟩) (by show w.heap.size<=w.heap.size+1+1;omega) (.int .i64 (hv1 X.T X.pos X.m a))).setCell (p:=⟨w.heap.size+1+1,1,none⟩) (by show w.heap.size<=w.heap.size+1+1;omega) (.int .i64 k2));have HV1:=hi_ ((ei_ HYd2.out (.int .i64 a) (.int .i64 k2)).far (k:=w.heap.size+1+1) (by omega) 0 (.int .i64 (hv1 X.T X.pos X.m a)) |>.far (k:=w.heap.size+1+1) (by omega) 1 (.int .i64 k2))
  have HV2:=hi_ (ei_ (((HYd3.out).far (k:=w.heap.size+1) (by omega) 0 (.int .i64 a)).far (k:=w.heap.size+1) (by omega) 1 (.int .i64 k2)) (.int .i64 (hv1 X.T X.pos X.m a)) (.int .i64 k2));refine cA_ _ rfl (fun K hK=>?_);go_simp
  refine hK _ _ (HSx.out _ HW1.out) ?_;clear hK K;show wpList _ _ _ _ _ _;simp only[List.drop_succ_cons,List.drop_zero];go_wp2_with fail
  generalize ((((wd.setCell ⟨w.heap.size+1,0,none⟩ (.int .i64 a)).setCell ⟨w.heap.size+1,1,none⟩ (.int .i64 k2)).setCell ⟨w.heap.size+1+1,0,none⟩ (.int .i64 (hv1 X.T X.pos X.m a))).setCell ⟨w.heap.size+1+1,1,none⟩ (.int .i64 k2))=WR at *;obtain⟨r0,r1⟩:=a3_ HV1.out;obtain⟨r2,r3⟩:=a3_ HV2.out
  (try simp only[Exit.inBlock,Exit.then])
  refine bodyPost_ret (v:=.tuple #[.agg #[.int .i64 a,.int .i64 k2],.agg #[.int .i64 (hv1 X.T X.pos X.m a),.int .i64 k2]]) (by simp[results,Tryz.results12,go_sem,r0,r1,r2,r3]) rfl ⟨by rw[HI2.out];rfl,HW2.out⟩
end A
end
section
open Go.RowKit Go.Sort
namespace A
open H G R
structure Good(X:Tw):Prop where
 mm:X.M.m=X.m
 whole:Whole X.m
 attrs:∀i,(nd X.m i).attrs.length<=62
 ok:du_ (cT_ 60) X.m
 len:X.m.length<=300
theorem cT_.up{k:Nat}{x:List (List UInt8×List UInt8)×List UInt8}(h:cT_ k x):∀d,cT_ (k+d) x
 |0=>h
 |d+1=>(cT_.up h d).more
theorem start_(os:List G.Op)(v:Value)(w:World)(h:f8_ w v os)(hfew:few os=true)(hf:∀o,o∈os->o.fits)(ht:fi_ w) :
  Calls Tryz.prog 11 #[v] w fun e w'=>∃X,e=.returned (.pointer (some ⟨X.tb,0,none⟩))/\be_ w w' X/\Good X:=by
 refine(start11 os v w h hfew hf ht).mono ?_;rintro e w' ⟨X,rfl,hX,hm,_,⟨i,hi,ha⟩,hl,_,_⟩;have ha60:du_ (cT_ 60) X.m:=fun j=>by
  have h1:=cT_.up (ha j) (60-i)
  rwa [show i+(60-i)=60 by omega]at h1
 refine⟨X,rfl,hX,hm,fun j=>⟨?_,(ha60 j).2.1⟩,fun j=>(ha60 j).1,ha60,hl⟩;have h1:(nd X.m j).data.length<=120*(60+1):=(ha60 j).2.2;omega
theorem Good.small{X:Tw}(h:Good X):gm_ X.m:=gW_ h.whole (fun i=>by have:=h.attrs i;omega)
def bh_.zero(sb:Nat):bh_:=⟨sb,.slice none 0 0,[],.slice none 0 0,[],0,sb⟩
theorem as_.new(w:World):as_ (w.alloc (.cells #[.slice none 0 0,.slice none 0 0,.int .i64 0] 50)) (bh_.zero w.heap.size):=
 ⟨Blk.new w _ _,World.ownsRow_nil _ _ _ _,World.ownsRow_nil _ _ _ _,⟨Nat.zero_le _,Nat.zero_le _⟩,⟨Int.le_refl _,by show(0:Int)<=10000;omega⟩,nl_⟩
theorem bh_.zero_foot{sb k:Nat}(h:(bh_.zero sb).foot k):sb<=k:=by
 rcases h with e|e|e
 ·exact Nat.le_of_eq e.symm
 ·cases e
 ·cases e
theorem h2_:Whole [aH_]:=fun i=>by
 cases i with
 |zero=>exact⟨by show([]:List UInt8).length<=_;simp,rfl⟩
 |succ i=>exact⟨by show([]:List UInt8).length<=_;simp,rfl⟩
theorem h3_:∀i,(nd [aH_] i).attrs.length<=100000:=fun i=>by
 cases i with
 |zero=>exact Nat.zero_le _
 |succ i=>exact Nat.zero_le _
theorem awake9(w:World):Calls Tryz.prog 9 #[] w fun e w'=>e=.returned (.bool true)/\Below w.heap.size w w':=by
 have QN:=hi_ (fun W=>new2_ 0 0 W)
 go_enter Tryz.func9,Tryz.ntmps9
 go_wp2_with fail
 refine(QN.out _).mono ?_;rintro e w1 ⟨T,rfl,hb1,hT1,_⟩;have HB1:=hi_ hb1;have HT1:=hi_ hT1;have hda:=(Below.refl w1.heap.size w1).alloc (nl_) (.cells #[.slice none 0 0,.slice none 0 0,.int .i64 0] 50);have HDa:=hi_ hda;have HS0:=hi_ (as_.new w1);have HT2:=hi_ (hT1.below hda);have hblk:=HT2.out.mem.blk;unfold gr_ at hblk;obtain⟨hc,hf⟩:=ad_ hblk;have c5:=hc 5;have htl:=hblk.lt;have hroot:T.root=hd T (fun _=>0) 0:=hT1.fits.root;have hz:n9_ T [aH_] (fun _=>0) T.root 0 0:=Or.inl ⟨0,rfl,hroot,rfl⟩;have QCr:=hi_ (h7_ T [aH_] (fun _=>0) (bh_.zero w1.heap.size) T.root 0 _ HT2.out HS0.out (gW_ h2_ h3_) hz (by show 0<10000;omega) (by show(0:Int)<10000;omega));have HRt:=hi_ hroot
 have c5':(w1.alloc (.cells #[.slice none 0 0,.slice none 0 0,.int .i64 0] 50)).cell? ⟨T.tb,5,none⟩=some (.int .i64 T.root):=c5;unfold bI_ at QCr;clear hda hblk hc hf c5 hb1 hT1 QN hroot hz;go_wp2_with fail
 refine QCr.out.mono ?_;rintro e w3 ⟨v,rfl,hf3,hs3,hv3⟩;have HD3:=hi_ (HDa.out.trans (hf3.below (B:=w1.heap.size) (fun k hk=>bh_.zero_foot hk) HDa.out.size));have HT3:=hi_ (HT1.out.below HD3.out);have HOk:Hid (SetOk T [aH_] (fun _=>0) { bh_.zero w1.heap.size with rv:=v,rs:=[]++[⟨0+1,T.root,0,T.root,0⟩],last:=0+1 }):=hi_
  ⟨(fun r hr => by
    obtain rfl:r=⟨0+1,T.root,0,T.root,0⟩:=by simpa using hr
    exact⟨(0,0),(0,0),⟨HRt.out,rfl,HRt.out,rfl⟩,⟨rfl,rfl⟩,⟨Nat.zero_le _,Nat.zero_le _⟩,rfl,by decide⟩),
   (fun x hx=>by cases hx),(fun i hi=>by
    obtain rfl:i=0:=by simpa using hi
    show(0:Int)<0+1
    omega),(fun i hi=>by cases hi),(fun r hr=>by
    obtain rfl:r=⟨0+1,T.root,0,T.root,0⟩:=by simpa using hr
    exact Int.le_refl _),(fun x hx=>by cases hx)⟩
 have QV:=hi_ (nH_ T [aH_] (fun _=>0) _ w3 HT3.out hs3 h2_ h3_ (by show 1<=2000;omega) HOk.out);have e1:(bh_.zero w1.heap.size).last+1=1:=rfl;rw[e1];clear hf3 hs3 hv3 QCr c5';go_wp2_with fail
 refine QV.out.mono ?_;rintro e w4 ⟨rfl,hb4⟩;have HB4:=hi_ ((HB1.out.trans (HD3.out.mono HB1.out.size)).trans (hb4.mono (Nat.le_trans HB1.out.size HD3.out.size)));clear hb4 QV;go_wp2_with fail
 go_ret
 exact⟨rfl,HB4.out⟩
def bh_.one(sb:Nat)(ao:Option Addr)(cap:Nat)(r:Rg):bh_:=⟨sb,.slice ao 1 cap,[r],.slice none 0 0,[],1,sb⟩
theorem jB_(r:Rg)(h:r.id=1):f1_ [r] 1=some 0:=jC_ (by simp) h (fun j hj=>by omega)
theorem kr_(T:am_)(m:aa_)(pos:Nat->Nat)(sb:Nat)(z k:Int)(w:World)(hT:aj_ w T m pos)(hS:as_ w (bh_.zero sb))(hm:gm_ m)(hp:n9_ T m pos z k 0) :
  Calls Tryz.prog 17 #[.pointer (some ⟨sb,0,none⟩),.pointer (some ⟨T.tb,0,none⟩),bI_ z k] w fun e w'=>∃ao cap,e=.returned (.tuple #[.int .i64 1,.int .i64 0])/\H.Frame (bh_.zero sb).foot w w'/\as_ w' (bh_.one sb ao cap ⟨1,z,k,z,k⟩)/\∀r b,(bh_.one sb ao cap r).foot b->sb<=b:=by
 refine(h7_ T m pos (bh_.zero sb) z k w hT hS hm hp (by show 0<10000;omega) (by show(0:Int)<10000;omega)).mono ?_;rintro e w' ⟨v,rfl,hf,hs,hv⟩;obtain⟨ao,cap,hv2⟩:=ac_.slice hs.rows;have hv2:v=.slice ao 1 cap:=hv2;subst hv2;refine⟨ao,cap,rfl,hf,hs,fun r b hb=>?_⟩;have hlt:=hS.blk.lt
 rcases hb with e|e|e
 ·exact Nat.le_of_eq e.symm
 ·rcases hv b e with e|e
  ·cases e
  ·have hlt:sb<w.heap.size:=hlt
   omega
 ·cases e
theorem k9_(sb:Nat)(ao:Option Addr)(cap:Nat)(r:Rg)(w:World)(hS:as_ w (bh_.one sb ao cap r))(hr:r.id=1) :
  Calls Tryz.prog 20 #[.pointer (some ⟨sb,0,none⟩),.int .i64 1] w fun e w'=>e=.returned (.tuple #[rgV r,.int .i64 0])/\Below w.heap.size w w':=
 range_ (bh_.one sb ao cap r) 1 0 w hS (jB_ r hr) (by show 0<1;omega)
theorem kI_(T:am_)(m:aa_)(pos:Nat->Nat)(sb:Nat)(ao:Option Addr)(cap:Nat)(r:Rg)(w:World)(hT:aj_ w T m pos)(hS:as_ w (bh_.one sb ao cap r))(hD:Whole m)(hA:∀i,(nd m i).attrs.length<=100000)(hl:m.length<=2000)(hr:r.id=1)(hok:RgOk T m pos r) :
  Calls Tryz.prog 21 #[.pointer (some ⟨sb,0,none⟩),.pointer (some ⟨T.tb,0,none⟩)] w fun e w'=>e=.returned (.bool true)/\Below w.heap.size w w':=
 nH_ T m pos (bh_.one sb ao cap r) w hT hS hD hA hl
  ⟨(fun x hx => by
    obtain rfl:x=r:=by simpa[bh_.one]using hx
    exact hok),(fun x hx=>by cases hx),(fun i hi=>by
    obtain rfl:i=0:=by simpa[bh_.one]using hi
    show(0:Int)<r.id
    omega),(fun i hi=>by cases hi),(fun x hx=>by
    obtain rfl:x=r:=by simpa[bh_.one]using hx
    show x.id<=1
    omega),(fun x hx=>by cases hx)⟩
theorem jT_(T:am_)(m:aa_)(pos:Nat->Nat)(sb:Nat)(ao:Option Addr)(cap:Nat)(r:Rg)(a b:Nat×Nat)(w:World)(hT:aj_ w T m pos)(hS:as_ w (bh_.one sb ao cap r))(hm:gm_ m)(hr:r.id=1)
  (ha:has m a.1=true) (ka:a.2<=G.sizeOf m a.1) (kA:a.2<=1000000) (hb:has m b.1=true) (kb:b.2<=G.sizeOf m b.1) (kB:b.2<=1000000) (hbz:r.sn=hd T pos b.1) (hbk:r.si=(b.2:Nat)) :
  Calls Tryz.prog 19 #[.pointer (some ⟨sb,0,none⟩),.pointer (some ⟨T.tb,0,none⟩),.int .i64 1,bI_ (hd T pos a.1) (a.2:Nat)] w fun e w'=>e=.returned (.int .i64 0)/\H.Frame (bh_.one sb ao cap r).foot w w' ∧
   as_ w' (bh_.one sb ao cap (bJ_ m a b (hd T pos a.1) (a.2:Nat) r)):=
 kY_ T m pos (bh_.one sb ao cap r) 1 0 a b w hT hS hm (jB_ r hr) (by show 0<1;omega) ha ka kA hb kb kB hbz hbk
def numOf(X:Tw)(z:Int):Int:=g9_ ((hvs X.T X.pos X.m X.m.length).findIdx? (fun h=>h==z))
theorem jq_{l:List Int}{z:Int}{i:Nat}(hi:i<l.length)(h:l[i]=z)(hn:∀j,(hj:j<i)->l[j]≠z):l.findIdx? (fun h=>h==z)=some i:=
 List.findIdx?_eq_some_iff_getElem.2 ⟨hi,by rw[h];exact beq_self_eq_true _,fun j hj=>by simpa using hn j hj⟩
theorem mT_{l:List Int}{z:Int}(hn:∀j,(hj:j<l.length)->l[j]≠z):l.findIdx? (fun h=>h==z)=none:=
 List.findIdx?_eq_none_iff.2 (fun x hx=>by
  obtain⟨j,hj,e⟩:=List.getElem_of_mem hx;rw[<-e];exact bn_ (hn j hj))
theorem lK_(T:am_)(pos:Nat->Nat)(m:aa_){n i:Nat}(h:i<(hvs T pos m n).length):(hvs T pos m n)[i]=hv1 T pos m i:=by simp[hvs]
theorem mU_{w0 w:World}{X:Tw}(hX:be_ w0 w X){i:Nat}(hi:has X.m i=true):numOf X (hd X.T X.pos i)=(i:Int):=by
 have hl:i<(hvs X.T X.pos X.m X.m.length).length:=by rw[fT_];exact aR_ hi
 unfold numOf;rw[jq_ hl (by rw[lK_,cE_ hi]) (fun j hj=>by
  rw[lK_];intro e
  by_cases hh:has X.m j=true
  ·rw[cE_ hh]at e
   have:=dB_ hX.tree.fits hh hi e;omega
  ·rw[cj_ (by simpa using hh)]at e
   have:=aP_ (T:=X.T) (pos:=X.pos) i
   omega)]
 rfl
theorem number_{w0 w:World}{X:Tw}(hX:be_ w0 w X)(hl:X.m.length<=2000)(z:Int) :
  Calls Tryz.prog 79 #[.pointer (some ⟨X.tb,0,none⟩),.int .i64 z] w fun e w'=>e=.returned (.int .i64 (numOf X z))/\w=w':=by
 have h:=hX.toMid;obtain⟨g,cap,hv,_⟩:=h.cells hX.pos_len;have HG:=hi_ (fun i hi=>h.get hv (i:=i) hi);obtain⟨c0,c1,c2,hlt⟩:=cS_ hX.blk;rw[hv]at c2;have hc:=fun i (hi:i<(hvs X.T X.pos X.m X.m.length).length)=>lK_ X.T X.pos X.m hi;have HA:=hi_ hc;obtain⟨l,hll⟩:∃l,l=hvs X.T X.pos X.m X.m.length:=⟨_,rfl⟩;have hlen:l.length=X.m.length:=by rw[hll,fT_]
 have HS:Hid (∀i,(hi:i<l.length)->l[i]=z->(∀j,(hj:j<i)->l[j]≠z)->numOf X z=(i:Int)):=hi_ (fun i hi e hn=>by unfold numOf;rw[<-hll,jq_ hi e hn];rfl);have HN:Hid ((∀j,(hj:j<l.length)->l[j]≠z)->numOf X z=-1):=hi_ (fun hn=>by unfold numOf;rw[<-hll,mT_ hn];rfl);have HGl:Hid (∀i,(hi:i<l.length)->w.cell? ⟨g,i,none⟩=some (.int .i64 l[i])/\g<w.heap.size):=hi_ (fun i hi=>by
  have h1:=HG.out i (by rw[<-hlen];exact hi);subst hll;rw[HA.out i hi];exact⟨h1.1,h1.2.2⟩)
 rw[<-hlen]at c2;have hl:l.length<=2000:=by rw[hlen];exact hl
 generalize numOf X z=R at *;clear hll hlen HA hc HG hv h hX
 go_enter Tryz.func79,Tryz.ntmps79
 go_wp2_with fail
 go_loopw [5] (fun v5 wr=>∃i:Nat,v5=.int .i64 i/\i<=l.length/\Hid (w=wr)/\Hid (∀j,(hj:j<i)->(hj2:j<l.length)->l[j]≠z)) (fun v5 _=>l.length-(aN_ v5).toNat)
 case atStart=>exact⟨0,rfl,Nat.zero_le _,hi_ rfl,hi_ (fun j hj=>by omega)⟩
 case round=>
  obtain⟨i,rfl,hi,HW,HB⟩:=hrel;obtain rfl:=HW.out;clear HW
  by_cases hil:i<l.length
  ·have hiI:(i:Int)<(l.length:Int):=by omega
   obtain⟨k0,kg⟩:=HGl.out i hil
   by_cases hz:l[i]=z
   ·have HR:=hi_ (HS.out i hil hz (fun j hj=>HB.out j hj (by omega)))
    rw[hz]at k0;clear hz;go_wp2_with fail
    go_ret
    exact⟨ay_ HR.out.symm,rfl⟩
   ·have hz2:(l[i]==z)=false:=bn_ hz
    have HB2:Hid (∀j,(hj:j<i+1)->(hj2:j<l.length)->l[j]≠z):=hi_ (fun j hj hj2=>by
     by_cases e:j=i
     ·subst e;exact hz
     ·exact HB.out j (by omega) hj2)
    generalize l[i]=y at *;go_wp2_with fail
    refine⟨⟨i+1,by push_cast;rfl,by omega,hi_ trivial,HB2⟩,?_⟩;show l.length-((i:Int)+1).toNat<l.length-((i:Int)).toNat;omega
  ·obtain rfl:i=l.length:=by omega
   have HR:=hi_ (HN.out (fun j hj=>HB.out j hj hj));go_wp2_with fail
   go_ret
   exact⟨ay_ HR.out.symm,rfl⟩
def mrV(X:Tw)(r:Rec):Value:=.agg #[.int .i64 r.kind,.int .i64 (numOf X (hd X.T X.pos r.target)),.int .i64 (numOf X (hdO X.T X.pos r.node)),.int .i64 0,.int .i64 0,.int .i64 r.index,.string ⟨#[]⟩,.string ⟨#[]⟩,.bool false,.int .i64 r.count,.int .i64 r.size]
theorem ky_{g:Nat}{t:TypeId}{w:World}{a0 a1 a2 a3 a4 a5 a6 a7 a8 a9 a10:Value}(hB:Blk g #[a0,a1,a2,a3,a4,a5,a6,a7,a8,a9,a10] t w)(b0 b1 b2 b3 b4 b5 b6 b7 b8 b9 b10:Value) :
  Blk g #[b0,b1,b2,b3,b4,b5,b6,b7,b8,b9,b10] t (((((((((((w.setCell ⟨g,0,none⟩ b0).setCell ⟨g,1,none⟩ b1).setCell ⟨g,2,none⟩ b2).setCell ⟨g,3,none⟩ b3).setCell ⟨g,4,none⟩ b4).setCell ⟨g,5,none⟩ b5).setCell ⟨g,6,none⟩ b6).setCell ⟨g,7,none⟩ b7).setCell ⟨g,8,none⟩ b8).setCell ⟨g,9,none⟩ b9).setCell ⟨g,10,none⟩ b10):=by
 have h9:=((((((((((hB.set 0 b0).set 1 b1).set 2 b2).set 3 b3).set 4 b4).set 5 b5).set 6 b6).set 7 b7).set 8 b8).set 9 b9).set 10 b10;simp only[List.setIfInBounds_toArray,List.set_cons_zero,List.set_cons_succ]at h9;exact h9
theorem id_{B g:Nat}{u w:World}(h:Below B u w)(hg:B<=g)(b0 b1 b2 b3 b4 b5 b6 b7 b8 b9 b10:Value) :
  Below B u (((((((((((w.setCell ⟨g,0,none⟩ b0).setCell ⟨g,1,none⟩ b1).setCell ⟨g,2,none⟩ b2).setCell ⟨g,3,none⟩ b3).setCell ⟨g,4,none⟩ b4).setCell ⟨g,5,none⟩ b5).setCell ⟨g,6,none⟩ b6).setCell ⟨g,7,none⟩ b7).setCell ⟨g,8,none⟩ b8).setCell ⟨g,9,none⟩ b9).setCell ⟨g,10,none⟩ b10):=
 ((((((((((h.setCell (p:=⟨g,0,none⟩) hg b0).setCell (p:=⟨g,1,none⟩) hg b1).setCell (p:=⟨g,2,none⟩) hg b2).setCell (p:=⟨g,3,none⟩) hg b3).setCell (p:=⟨g,4,none⟩) hg b4).setCell (p:=⟨g,5,none⟩) hg b5).setCell (p:=⟨g,6,none⟩) hg b6).setCell (p:=⟨g,7,none⟩) hg b7).setCell (p:=⟨g,8,none⟩) hg b8).setCell (p:=⟨g,9,none⟩) hg b9).setCell (p:=⟨g,10,none⟩) hg b10
theorem record_{w0 w:World}{X:Tw}(hX:be_ w0 w X)(hl:X.m.length<=2000)(r:Rec) :
  Calls Tryz.prog 26 #[.pointer (some ⟨X.tb,0,none⟩),nU_ X.T X.pos r] w fun e w'=>e=.returned (mrV X r)/\Below w.heap.size w w':=by
 have hb1:=(Below.refl w.heap.size w).alloc (nl_) (.cells (aB_ X.T X.pos r).toArray 73);have hb2:=hb1.alloc hb1.size (.cells #[.int .i64 0,.int .i64 0,.int .i64 0,.int .i64 0,.int .i64 0,.int .i64 0,.string ⟨#[]⟩,.string ⟨#[]⟩,.bool false,.int .i64 0,.int .i64 0] 71);have hr:=(Blk.new w (aB_ X.T X.pos r).toArray 73).alloc (.cells #[.int .i64 0,.int .i64 0,.int .i64 0,.int .i64 0,.int .i64 0,.int .i64 0,.string ⟨#[]⟩,.string ⟨#[]⟩,.bool false,.int .i64 0,.int .i64 0] 71);have ho:=Blk.new (w.alloc (.cells (aB_ X.T X.pos r).toArray 73)) #[.int .i64 0,.int .i64 0,.int .i64 0,.int .i64 0,.int .i64 0,.int .i64 0,.string ⟨#[]⟩,.string ⟨#[]⟩,.bool false,.int .i64 0,.int .i64 0] 71;rw[World.size_alloc]at ho
 have HX:=hi_ (hX.below hb2);have HB:=hi_ hb2;have HO:=hi_ ho;have HR:=hi_ hr;have QN:=hi_ (fun z W (h:be_ w0 W X)=>number_ h hl z);unfold nU_ mrV aB_;unfold aB_ at HX HB HO HR;generalize numOf X=nf at *;generalize hdO X.T X.pos r.node=nz at *;generalize hd X.T X.pos r.target=tz at *;generalize hdO X.T X.pos r.prev=pz at *;generalize hdO X.T X.pos r.next=xz at *;clear hX hb1 hb2 hr ho
 go_enter Tryz.func26,Tryz.ntmps26
 go_upto_region 1 with fail
 generalize World.alloc _ _=w1 at *;have hr:=(ad_ HR.out).1;have hl:=HR.out.lt;have r0:=hr 0;have r1:=hr 1;have r2:=hr 2;have r5:=hr 5;have r9:=hr 9;have r10:=hr 10;have D0:=lc_ r0 hl;have D1:=lc_ r1 hl;have D2:=lc_ r2 hl;have D5:=lc_ r5 hl;have D9:=lc_ r9 hl;have D10:=lc_ r10 hl;clear hr r0 r1 r2 r5 r9 r10;refine an_ 17 _ _ (by kernel_rfl) (by kernel_rfl) rfl ?_;simp only[List.take_succ_cons,List.take_zero];repeat (go_big_quiet_step ((first|(go_at_call_of 79 (Value.int .i64 tz);with_reducible exact Calls.later_same (QN.out tz _ (HX.out.below (Later.h _))))|(go_at_call 79;with_reducible exact Calls.later_same (QN.out nz _ (HX.out.below (Later.h _)))))))
 refine wq_ (fun dq=>?_);have HB2:=bt_ HB dq.h;have HO2:=hi_ (HO.out.below dq.h);clear D0 D1 D2 D5 D9 D10 HB HO HR HX QN hl;generalize dq.w=w2 at *;clear dq;obtain⟨hoc,hof⟩:=ad_ HO2.out;have ol:=HO2.out.lt;have f0:=hof 0 (by show 0<11;omega);have f1:=hof 1 (by show 1<11;omega);have f2:=hof 2 (by show 2<11;omega);have f3:=hof 3 (by show 3<11;omega);have f4:=hof 4 (by show 4<11;omega);have f5:=hof 5 (by show 5<11;omega);have f6:=hof 6 (by show 6<11;omega);have f7:=hof 7 (by show 7<11;omega);have f8:=hof 8 (by show 8<11;omega);have f9:=hof 9 (by show 9<11;omega);have f10:=hof 10 (by show 10<11;omega);have z0:=hoc 0;have z1:=hoc 1;have z2:=hoc 2;have z3:=hoc 3;have z4:=hoc 4;have z5:=hoc 5;have z6:=hoc 6;have z7:=hoc 7;have z8:=hoc 8;have z9:=hoc 9;have z10:=hoc 10
 clear hoc hof;intro K hK;go_simp
 refine hK _ _ (ar_ ?_);clear hK K;repeat (go_big_quiet_step (fail))
 refine wq_ (fun dq=>?_);have HB3:=hi_ (id_ HB2.out (g:=w.heap.size+1) (by omega) (.int .i64 r.kind) (.int .i64 (nf tz)) (.int .i64 (nf nz)) (.int .i64 0) (.int .i64 0) (.int .i64 r.index) (.string ⟨#[]⟩) (.string ⟨#[]⟩) (.bool false) (.int .i64 r.count) (.int .i64 r.size));have HB4:=bt_ HB3 dq.h;have HO4:=hi_ ((ky_ HO2.out (.int .i64 r.kind) (.int .i64 (nf tz)) (.int .i64 (nf nz)) (.int .i64 0) (.int .i64 0) (.int .i64 r.index) (.string ⟨#[]⟩) (.string ⟨#[]⟩) (.bool false) (.int .i64 r.count) (.int .i64 r.size)).below dq.h);clear HB3 HO2 HB2 f0 f1 f2 f3 f4 f5 f6 f7 f8 f9 f10 z0 z1 z2 z3 z4 z5 z6 z7 z8 z9 z10 ol;generalize dq.w=w3 at *;clear dq;go_wp2_with fail
 have hc:=(ad_ HO4.out).1;have v0:=hc 0;have v1:=hc 1;have v2:=hc 2;have v3:=hc 3;have v4:=hc 4;have v5:=hc 5;have v6:=hc 6;have v7:=hc 7;have v8:=hc 8;have v9:=hc 9;have v10:=hc 10;simp only[List.getElem?_toArray,List.getElem?_cons_zero,List.getElem?_cons_succ]at v0 v1 v2 v3 v4 v5 v6 v7 v8 v9 v10
 (try simp only[Exit.inBlock,Exit.then])
 exact bodyPost_ret (v:=.agg #[.int .i64 r.kind,.int .i64 (nf tz),.int .i64 (nf nz),.int .i64 0,.int .i64 0,.int .i64 r.index,.string ⟨#[]⟩,.string ⟨#[]⟩,.bool false,.int .i64 r.count,.int .i64 r.size]) (by simp[results,Tryz.results26,go_sem,v0,v1,v2,v3,v4,v5,v6,v7,v8,v9,v10]) rfl ⟨rfl,HB4.out⟩
theorem jc_{m:aa_}(W:WF m)(p:Nat):bd_ m p<m.length:=Nat.mod_lt _ W.doc.1
theorem eQ_{m:aa_}{p q:Nat}(h:has m (bd_ m p)=true):db_ m p q<=G.sizeOf m (bd_ m p):=by
 unfold db_;rw[if_pos h];have:=Nat.mod_lt q (show 0<G.sizeOf m (bd_ m p)+1 by omega);omega
theorem e7_{w:World}{g:Nat}{t:TypeId}{a b:Value}(h:Blk g #[a,b] t w):w.cell? ⟨g,0,none⟩=some a/\w.cell? ⟨g,1,none⟩=some b/\(∀d:Later w.heap.size w,d.w.cell? ⟨g,0,none⟩=some a)/\∀d:Later w.heap.size w,d.w.cell? ⟨g,1,none⟩=some b:=
 ⟨(ad_ h).1 0,(ad_ h).1 1,fun d=>Later.cell ((ad_ h).1 0) h.lt d,fun d=>Later.cell ((ad_ h).1 1) h.lt d⟩
theorem kL_(w:World)(i k:Nat)(z:Int):Below w.heap.size w ((w.alloc (.cells #[.int .i64 i,.int .i64 k] 30)).alloc (.cells #[.int .i64 z,.int .i64 k] 31)) ∧
  Blk w.heap.size #[.int .i64 i,.int .i64 k] 30 ((w.alloc (.cells #[.int .i64 i,.int .i64 k] 30)).alloc (.cells #[.int .i64 z,.int .i64 k] 31)) ∧
  Blk (w.heap.size+1) #[.int .i64 z,.int .i64 k] 31 ((w.alloc (.cells #[.int .i64 i,.int .i64 k] 30)).alloc (.cells #[.int .i64 z,.int .i64 k] 31)):=by
 refine⟨((Below.refl w.heap.size w).alloc (nl_) _).alloc (by simp) _,(Blk.new w _ _).alloc _,?_⟩;have h:=Blk.new (w.alloc (.cells #[.int .i64 i,.int .i64 k] 30)) #[.int .i64 z,.int .i64 k] 31;simpa using h
end A
end
section
open Go.RowKit Go.Sort
namespace A
open H G R
structure MvM(w W:World)(M:aF_)(z k:Int)(cs:Array Value):Prop where
 bel:Below w.heap.size w W
 mod:ab_ W M
 p:Blk w.heap.size #[.int .i64 z,.int .i64 k] 30 W
 r:Blk (w.heap.size+1) cs 71 W
 o:Blk (w.heap.size+1+1) #[.int .i64 0,.int .i64 0] 30 W
def kE_(M:aF_)(z k:Int)(cs:Array Value)(u v:Int):Prop:=
 ∀w:World,ab_ w M->Calls Tryz.prog 27 #[.pointer (some ⟨M.mb,0,none⟩),.agg #[.int .i64 z,.int .i64 k],.agg cs] w fun e w'=>e=.returned (.agg #[.int .i64 u,.int .i64 v])/\Below w.heap.size w w'
theorem MvM.start{w:World}{M:aF_}(h:ab_ w M)(z k:Int)(cs:Array Value):MvM w (((w.alloc (.cells #[.int .i64 z,.int .i64 k] 30)).alloc (.cells cs 71)).alloc (.cells #[.int .i64 0,.int .i64 0] 30)) M z k cs:=by
 have b1:=(Below.refl w.heap.size w).alloc (nl_) (.cells #[.int .i64 z,.int .i64 k] 30);have b2:=b1.alloc b1.size (.cells cs 71);have b3:=b2.alloc b2.size (.cells #[.int .i64 0,.int .i64 0] 30);refine⟨b3,h.below b3,((Blk.new w _ _).alloc _).alloc _,?_,?_⟩
 ·have h1:=(Blk.new (w.alloc (.cells #[.int .i64 z,.int .i64 k] 30)) cs 71).alloc (.cells #[.int .i64 0,.int .i64 0] 30)
  rw[World.size_alloc]at h1;exact h1
 ·have h1:=Blk.new ((w.alloc (.cells #[.int .i64 z,.int .i64 k] 30)).alloc (.cells cs 71)) #[.int .i64 0,.int .i64 0] 30
  rw[World.size_alloc,World.size_alloc]at h1;exact h1
section
variable {w W:World} {M:aF_} {z k:Int} {cs:Array Value}
theorem MvM.cells{a0 a1 a2 a3 a4 a5 a6 a7 a8 a9 a10:Value}(h:MvM w W M z k #[a0,a1,a2,a3,a4,a5,a6,a7,a8,a9,a10]) :
  (W.cell? ⟨w.heap.size,0,none⟩=some (.int .i64 z)/\W.cell? ⟨w.heap.size,1,none⟩=some (.int .i64 k)/\W.frozen? ⟨w.heap.size,1,none⟩=false/\w.heap.size<W.heap.size) ∧
  (W.cell? ⟨w.heap.size+1,0,none⟩=some a0/\W.cell? ⟨w.heap.size+1,1,none⟩=some a1/\W.cell? ⟨w.heap.size+1,2,none⟩=some a2/\W.cell? ⟨w.heap.size+1,5,none⟩=some a5/\W.cell? ⟨w.heap.size+1,9,none⟩=some a9/\W.cell? ⟨w.heap.size+1,10,none⟩=some a10/\w.heap.size+1<W.heap.size) ∧
  (W.cell? ⟨w.heap.size+1+1,0,none⟩=some (.int .i64 0)/\W.cell? ⟨w.heap.size+1+1,1,none⟩=some (.int .i64 0)/\W.frozen? ⟨w.heap.size+1+1,0,none⟩=false/\W.frozen? ⟨w.heap.size+1+1,1,none⟩=false/\w.heap.size+1+1<W.heap.size):=by
 have hp:=ad_ h.p;have hr:=(ad_ h.r).1;have ho:=ad_ h.o;exact⟨⟨hp.1 0,hp.1 1,hp.2 1 (by show 1<2;omega),h.p.lt⟩,⟨hr 0,hr 1,hr 2,hr 5,hr 9,hr 10,h.r.lt⟩,⟨ho.1 0,ho.1 1,ho.2 0 (by show 0<2;omega),ho.2 1 (by show 1<2;omega),h.o.lt⟩⟩
theorem MvM.idx(h:MvM w W M z k cs)(hm:ab_ w M)(k':Int):MvM w (W.setCell ⟨w.heap.size,1,none⟩ (.int .i64 k')) M z k' cs:=by
 have hb:=h.bel.setCell (p:=⟨w.heap.size,1,none⟩) (nl_) (.int .i64 k');refine⟨hb,hm.below hb,?_,Blk.far h.r (by omega) _ _,Blk.far h.o (by omega) _ _⟩;have h1:=h.p.set 1 (.int .i64 k');simp only[List.setIfInBounds_toArray,List.set_cons_zero,List.set_cons_succ]at h1;exact h1
theorem MvM.res(h:MvM w W M z k cs)(u v:Int):Below w.heap.size w ((W.setCell ⟨w.heap.size+1+1,0,none⟩ (.int .i64 u)).setCell ⟨w.heap.size+1+1,1,none⟩ (.int .i64 v))/\Blk (w.heap.size+1+1) #[.int .i64 u,.int .i64 v] 30 ((W.setCell ⟨w.heap.size+1+1,0,none⟩ (.int .i64 u)).setCell ⟨w.heap.size+1+1,1,none⟩ (.int .i64 v)):=
 ⟨(h.bel.setCell (p:=⟨w.heap.size+1+1,0,none⟩) (by show w.heap.size<=w.heap.size+1+1;omega) _).setCell (p:=⟨w.heap.size+1+1,1,none⟩) (by show w.heap.size<=w.heap.size+1+1;omega) _,ei_ h.o _ _⟩
end
theorem mv_in(M:aF_)(z k kd tz nz ix ct sz:Int)(a3 a4 a6 a7 a8:Value)(hC:∀W,ab_ W M->Calls Tryz.prog 80 #[.pointer (some ⟨M.mb,0,none⟩),.int .i64 nz,.int .i64 z] W fun e w'=>e=.returned (.bool true)/\W=w'):kE_ M z k #[.int .i64 2,.int .i64 tz,.int .i64 nz,a3,a4,.int .i64 ix,a6,a7,a8,.int .i64 ct,.int .i64 sz] tz ix:=by
 intro w h;have HM:=hi_ (MvM.start h z k #[.int .i64 2,.int .i64 tz,.int .i64 nz,a3,a4,.int .i64 ix,a6,a7,a8,.int .i64 ct,.int .i64 sz]);have HO:=hi_ h;clear h;have QC:=hi_ hC;clear hC
 go_enter Tryz.func27,Tryz.ntmps27
 go_upto_region 1 with fail
 generalize World.alloc _ _=w1 at *;obtain⟨⟨p0,p1,pf,pl⟩,⟨r0,r1,r2,r5,r9,r10,rl⟩,⟨o0,o1,of0,of1,ol⟩⟩:=HM.out.cells;go_wp2_with fail
 refine(QC.out _ HM.out.mod).mono ?_;rintro e w1' ⟨rfl,rfl⟩;clear p0 p1 pf pl r0 r1 r2 r5 r9 r10 rl o0 o1 of0 of1 ol;obtain⟨⟨p0,p1,pf,pl⟩,⟨r0,r1,r2,r5,r9,r10,rl⟩,⟨o0,o1,of0,of1,ol⟩⟩:=HM.out.cells;go_upto_region 7 with fail
 clear p0 p1 pf pl r0 r1 r2 r5 r9 r10 rl o0 o1 of0 of1 ol;obtain⟨hb,hv⟩:=HM.out.res tz ix;have HB:=hi_ hb;have HV:=hi_ hv;clear hb hv;obtain⟨⟨p0,p1,pf,pl⟩,⟨r0,r1,r2,r5,r9,r10,rl⟩,⟨o0,o1,of0,of1,ol⟩⟩:=HM.out.cells;go_wp2_with fail
 clear p0 p1 pf pl r0 r1 r2 r5 r9 r10 rl o0 o1 of0 of1 ol;obtain⟨v0,v1⟩:=a3_ HV.out
 (try simp only[Exit.inBlock,Exit.then])
 exact bodyPost_ret (v:=.agg #[.int .i64 tz,.int .i64 ix]) (by simp[results,Tryz.results27,go_sem,v0,v1]) rfl ⟨rfl,HB.out⟩
theorem mv_1_nt(M:aF_)(z k kd tz nz ix ct sz:Int)(a3 a4 a6 a7 a8:Value)(hn:¬z=tz):kE_ M z k #[.int .i64 1,.int .i64 tz,.int .i64 nz,a3,a4,.int .i64 ix,a6,a7,a8,.int .i64 ct,.int .i64 sz] z k:=by
 intro w h;have HM:=hi_ (MvM.start h z k #[.int .i64 1,.int .i64 tz,.int .i64 nz,a3,a4,.int .i64 ix,a6,a7,a8,.int .i64 ct,.int .i64 sz]);have HO:=hi_ h;clear h;have n1:(z==tz)=false:=bn_ hn;have n2:(z != tz)=true:=bne_iff_ne.2 hn
 go_enter Tryz.func27,Tryz.ntmps27
 go_upto_region 1 with fail
 generalize World.alloc _ _=w1 at *;obtain⟨⟨p0,p1,pf,pl⟩,⟨r0,r1,r2,r5,r9,r10,rl⟩,⟨o0,o1,of0,of1,ol⟩⟩:=HM.out.cells;go_upto_region 15 with fail
 clear p0 p1 pf pl r0 r1 r2 r5 r9 r10 rl o0 o1 of0 of1 ol;obtain⟨hb,hv⟩:=HM.out.res z k;have HB:=hi_ hb;have HV:=hi_ hv;clear hb hv;obtain⟨⟨p0,p1,pf,pl⟩,⟨r0,r1,r2,r5,r9,r10,rl⟩,⟨o0,o1,of0,of1,ol⟩⟩:=HM.out.cells;go_wp2_with fail
 clear p0 p1 pf pl r0 r1 r2 r5 r9 r10 rl o0 o1 of0 of1 ol;obtain⟨v0,v1⟩:=a3_ HV.out
 (try simp only[Exit.inBlock,Exit.then])
 exact bodyPost_ret (v:=.agg #[.int .i64 z,.int .i64 k]) (by simp[results,Tryz.results27,go_sem,v0,v1]) rfl ⟨rfl,HB.out⟩
theorem mv_1_le(M:aF_)(z k kd tz nz ix ct sz:Int)(a3 a4 a6 a7 a8:Value)(hi:k<=ix):kE_ M z k #[.int .i64 1,.int .i64 z,.int .i64 nz,a3,a4,.int .i64 ix,a6,a7,a8,.int .i64 ct,.int .i64 sz] z k:=by
 intro w h;have HM:=hi_ (MvM.start h z k #[.int .i64 1,.int .i64 z,.int .i64 nz,a3,a4,.int .i64 ix,a6,a7,a8,.int .i64 ct,.int .i64 sz]);have HO:=hi_ h;clear h;have i1:decide (k > ix)=false:=decide_eq_false (by omega);have i2:decide (ix<k)=false:=decide_eq_false (by omega);have i3:¬ix<k:=by omega
 go_enter Tryz.func27,Tryz.ntmps27
 go_upto_region 1 with fail
 generalize World.alloc _ _=w1 at *;obtain⟨⟨p0,p1,pf,pl⟩,⟨r0,r1,r2,r5,r9,r10,rl⟩,⟨o0,o1,of0,of1,ol⟩⟩:=HM.out.cells;go_upto_region 15 with fail
 clear p0 p1 pf pl r0 r1 r2 r5 r9 r10 rl o0 o1 of0 of1 ol;obtain⟨hb,hv⟩:=HM.out.res z k;have HB:=hi_ hb;have HV:=hi_ hv;clear hb hv;obtain⟨⟨p0,p1,pf,pl⟩,⟨r0,r1,r2,r5,r9,r10,rl⟩,⟨o0,o1,of0,of1,ol⟩⟩:=HM.out.cells;go_wp2_with fail
 clear p0 p1 pf pl r0 r1 r2 r5 r9 r10 rl o0 o1 of0 of1 ol;obtain⟨v0,v1⟩:=a3_ HV.out
 (try simp only[Exit.inBlock,Exit.then])
 exact bodyPost_ret (v:=.agg #[.int .i64 z,.int .i64 k]) (by simp[results,Tryz.results27,go_sem,v0,v1]) rfl ⟨rfl,HB.out⟩
theorem mv_2_nt(M:aF_)(z k kd tz nz ix ct sz:Int)(a3 a4 a6 a7 a8:Value)(hC:∀W,ab_ W M->Calls Tryz.prog 80 #[.pointer (some ⟨M.mb,0,none⟩),.int .i64 nz,.int .i64 z] W fun e w'=>e=.returned (.bool false)/\W=w')(hn:¬z=tz):kE_ M z k #[.int .i64 2,.int .i64 tz,.int .i64 nz,a3,a4,.int .i64 ix,a6,a7,a8,.int .i64 ct,.int .i64 sz] z k:=by
 intro w h;have HM:=hi_ (MvM.start h z k #[.int .i64 2,.int .i64 tz,.int .i64 nz,a3,a4,.int .i64 ix,a6,a7,a8,.int .i64 ct,.int .i64 sz]);have HO:=hi_ h;clear h;have QC:=hi_ hC;clear hC;have n1:(z==tz)=false:=bn_ hn;have n2:(z != tz)=true:=bne_iff_ne.2 hn
 go_enter Tryz.func27,Tryz.ntmps27
 go_upto_region 1 with fail
 generalize World.alloc _ _=w1 at *;obtain⟨⟨p0,p1,pf,pl⟩,⟨r0,r1,r2,r5,r9,r10,rl⟩,⟨o0,o1,of0,of1,ol⟩⟩:=HM.out.cells;go_wp2_with fail
 refine(QC.out _ HM.out.mod).mono ?_;rintro e w1' ⟨rfl,rfl⟩;clear p0 p1 pf pl r0 r1 r2 r5 r9 r10 rl o0 o1 of0 of1 ol;obtain⟨⟨p0,p1,pf,pl⟩,⟨r0,r1,r2,r5,r9,r10,rl⟩,⟨o0,o1,of0,of1,ol⟩⟩:=HM.out.cells;go_upto_region 15 with fail
 clear p0 p1 pf pl r0 r1 r2 r5 r9 r10 rl o0 o1 of0 of1 ol;obtain⟨hb,hv⟩:=HM.out.res z k;have HB:=hi_ hb;have HV:=hi_ hv;clear hb hv;obtain⟨⟨p0,p1,pf,pl⟩,⟨r0,r1,r2,r5,r9,r10,rl⟩,⟨o0,o1,of0,of1,ol⟩⟩:=HM.out.cells;go_wp2_with fail
 clear p0 p1 pf pl r0 r1 r2 r5 r9 r10 rl o0 o1 of0 of1 ol;obtain⟨v0,v1⟩:=a3_ HV.out
 (try simp only[Exit.inBlock,Exit.then])
 exact bodyPost_ret (v:=.agg #[.int .i64 z,.int .i64 k]) (by simp[results,Tryz.results27,go_sem,v0,v1]) rfl ⟨rfl,HB.out⟩
theorem mv_2_le(M:aF_)(z k kd tz nz ix ct sz:Int)(a3 a4 a6 a7 a8:Value)(hC:∀W,ab_ W M->Calls Tryz.prog 80 #[.pointer (some ⟨M.mb,0,none⟩),.int .i64 nz,.int .i64 z] W fun e w'=>e=.returned (.bool false)/\W=w')(hi:k<=ix):kE_ M z k #[.int .i64 2,.int .i64 z,.int .i64 nz,a3,a4,.int .i64 ix,a6,a7,a8,.int .i64 ct,.int .i64 sz] z k:=by
 intro w h;have HM:=hi_ (MvM.start h z k #[.int .i64 2,.int .i64 z,.int .i64 nz,a3,a4,.int .i64 ix,a6,a7,a8,.int .i64 ct,.int .i64 sz]);have HO:=hi_ h;clear h;have QC:=hi_ hC;clear hC;have i1:decide (k > ix)=false:=decide_eq_false (by omega);have i2:decide (ix<k)=false:=decide_eq_false (by omega);have i3:¬ix<k:=by omega
 go_enter Tryz.func27,Tryz.ntmps27
 go_upto_region 1 with fail
 generalize World.alloc _ _=w1 at *;obtain⟨⟨p0,p1,pf,pl⟩,⟨r0,r1,r2,r5,r9,r10,rl⟩,⟨o0,o1,of0,of1,ol⟩⟩:=HM.out.cells;go_wp2_with fail
 refine(QC.out _ HM.out.mod).mono ?_;rintro e w1' ⟨rfl,rfl⟩;clear p0 p1 pf pl r0 r1 r2 r5 r9 r10 rl o0 o1 of0 of1 ol;obtain⟨⟨p0,p1,pf,pl⟩,⟨r0,r1,r2,r5,r9,r10,rl⟩,⟨o0,o1,of0,of1,ol⟩⟩:=HM.out.cells;go_upto_region 15 with fail
 clear p0 p1 pf pl r0 r1 r2 r5 r9 r10 rl o0 o1 of0 of1 ol;obtain⟨hb,hv⟩:=HM.out.res z k;have HB:=hi_ hb;have HV:=hi_ hv;clear hb hv;obtain⟨⟨p0,p1,pf,pl⟩,⟨r0,r1,r2,r5,r9,r10,rl⟩,⟨o0,o1,of0,of1,ol⟩⟩:=HM.out.cells;go_wp2_with fail
 clear p0 p1 pf pl r0 r1 r2 r5 r9 r10 rl o0 o1 of0 of1 ol;obtain⟨v0,v1⟩:=a3_ HV.out
 (try simp only[Exit.inBlock,Exit.then])
 exact bodyPost_ret (v:=.agg #[.int .i64 z,.int .i64 k]) (by simp[results,Tryz.results27,go_sem,v0,v1]) rfl ⟨rfl,HB.out⟩
theorem mv_4_nt(M:aF_)(z k kd tz nz ix ct sz:Int)(a3 a4 a6 a7 a8:Value)(hn:¬z=tz):kE_ M z k #[.int .i64 4,.int .i64 tz,.int .i64 nz,a3,a4,.int .i64 ix,a6,a7,a8,.int .i64 ct,.int .i64 sz] z k:=by
 intro w h;have HM:=hi_ (MvM.start h z k #[.int .i64 4,.int .i64 tz,.int .i64 nz,a3,a4,.int .i64 ix,a6,a7,a8,.int .i64 ct,.int .i64 sz]);have HO:=hi_ h;clear h;have n1:(z==tz)=false:=bn_ hn;have n2:(z != tz)=true:=bne_iff_ne.2 hn
 go_enter Tryz.func27,Tryz.ntmps27
 go_upto_region 1 with fail
 generalize World.alloc _ _=w1 at *;obtain⟨⟨p0,p1,pf,pl⟩,⟨r0,r1,r2,r5,r9,r10,rl⟩,⟨o0,o1,of0,of1,ol⟩⟩:=HM.out.cells;go_upto_region 15 with fail
 clear p0 p1 pf pl r0 r1 r2 r5 r9 r10 rl o0 o1 of0 of1 ol;obtain⟨hb,hv⟩:=HM.out.res z k;have HB:=hi_ hb;have HV:=hi_ hv;clear hb hv;obtain⟨⟨p0,p1,pf,pl⟩,⟨r0,r1,r2,r5,r9,r10,rl⟩,⟨o0,o1,of0,of1,ol⟩⟩:=HM.out.cells;go_wp2_with fail
 clear p0 p1 pf pl r0 r1 r2 r5 r9 r10 rl o0 o1 of0 of1 ol;obtain⟨v0,v1⟩:=a3_ HV.out
 (try simp only[Exit.inBlock,Exit.then])
 exact bodyPost_ret (v:=.agg #[.int .i64 z,.int .i64 k]) (by simp[results,Tryz.results27,go_sem,v0,v1]) rfl ⟨rfl,HB.out⟩
theorem mv_4_le(M:aF_)(z k kd tz nz ix ct sz:Int)(a3 a4 a6 a7 a8:Value)(hi:k<=ix):kE_ M z k #[.int .i64 4,.int .i64 z,.int .i64 nz,a3,a4,.int .i64 ix,a6,a7,a8,.int .i64 ct,.int .i64 sz] z k:=by
 intro w h;have HM:=hi_ (MvM.start h z k #[.int .i64 4,.int .i64 z,.int .i64 nz,a3,a4,.int .i64 ix,a6,a7,a8,.int .i64 ct,.int .i64 sz]);have HO:=hi_ h;clear h;have i1:decide (k > ix)=false:=decide_eq_false (by omega);have i2:decide (ix<k)=false:=decide_eq_false (by omega);have i3:¬ix<k:=by omega
 go_enter Tryz.func27,Tryz.ntmps27
 go_upto_region 1 with fail
 generalize World.alloc _ _=w1 at *;obtain⟨⟨p0,p1,pf,pl⟩,⟨r0,r1,r2,r5,r9,r10,rl⟩,⟨o0,o1,of0,of1,ol⟩⟩:=HM.out.cells;go_upto_region 15 with fail
 clear p0 p1 pf pl r0 r1 r2 r5 r9 r10 rl o0 o1 of0 of1 ol;obtain⟨hb,hv⟩:=HM.out.res z k;have HB:=hi_ hb;have HV:=hi_ hv;clear hb hv;obtain⟨⟨p0,p1,pf,pl⟩,⟨r0,r1,r2,r5,r9,r10,rl⟩,⟨o0,o1,of0,of1,ol⟩⟩:=HM.out.cells;go_wp2_with fail
 clear p0 p1 pf pl r0 r1 r2 r5 r9 r10 rl o0 o1 of0 of1 ol;obtain⟨v0,v1⟩:=a3_ HV.out
 (try simp only[Exit.inBlock,Exit.then])
 exact bodyPost_ret (v:=.agg #[.int .i64 z,.int .i64 k]) (by simp[results,Tryz.results27,go_sem,v0,v1]) rfl ⟨rfl,HB.out⟩
theorem mv_1_gt(M:aF_)(z k kd tz nz ix ct sz:Int)(a3 a4 a6 a7 a8:Value)(hi:¬k<=ix)(hw:IntKind.i64.wrap (k+1)=k+1):kE_ M z k #[.int .i64 1,.int .i64 z,.int .i64 nz,a3,a4,.int .i64 ix,a6,a7,a8,.int .i64 ct,.int .i64 sz] z (k+1):=by
 intro w h;have HM:=hi_ (MvM.start h z k #[.int .i64 1,.int .i64 z,.int .i64 nz,a3,a4,.int .i64 ix,a6,a7,a8,.int .i64 ct,.int .i64 sz]);have HO:=hi_ h;clear h;have i1:decide (k > ix)=true:=decide_eq_true (by omega);have i2:decide (ix<k)=true:=decide_eq_true (by omega);have i3:ix<k:=by omega
 go_enter Tryz.func27,Tryz.ntmps27
 go_upto_region 1 with fail
 generalize World.alloc _ _=w1 at *;obtain⟨⟨p0,p1,pf,pl⟩,⟨r0,r1,r2,r5,r9,r10,rl⟩,⟨o0,o1,of0,of1,ol⟩⟩:=HM.out.cells;go_upto_region 15 with fail
 clear p0 p1 pf pl r0 r1 r2 r5 r9 r10 rl o0 o1 of0 of1 ol;have HM2:=hi_ (HM.out.idx HO.out (k+1));clear HM;have HM:=HM2;clear HM2;generalize w1.setCell ⟨w.heap.size,1,none⟩ (.int .i64 (k+1))=w2 at *;obtain⟨hb,hv⟩:=HM.out.res z (k+1);have HB:=hi_ hb;have HV:=hi_ hv;clear hb hv;obtain⟨⟨p0,p1,pf,pl⟩,⟨r0,r1,r2,r5,r9,r10,rl⟩,⟨o0,o1,of0,of1,ol⟩⟩:=HM.out.cells;go_wp2_with fail
 clear p0 p1 pf pl r0 r1 r2 r5 r9 r10 rl o0 o1 of0 of1 ol;obtain⟨v0,v1⟩:=a3_ HV.out
 (try simp only[Exit.inBlock,Exit.then])
 exact bodyPost_ret (v:=.agg #[.int .i64 z,.int .i64 (k+1)]) (by simp[results,Tryz.results27,go_sem,v0,v1]) rfl ⟨rfl,HB.out⟩
theorem mv_2_gt(M:aF_)(z k kd tz nz ix ct sz:Int)(a3 a4 a6 a7 a8:Value)(hC:∀W,ab_ W M->Calls Tryz.prog 80 #[.pointer (some ⟨M.mb,0,none⟩),.int .i64 nz,.int .i64 z] W fun e w'=>e=.returned (.bool false)/\W=w')(hi:¬k<=ix)(hw:IntKind.i64.wrap (k-1)=k-1):kE_ M z k #[.int .i64 2,.int .i64 z,.int .i64 nz,a3,a4,.int .i64 ix,a6,a7,a8,.int .i64 ct,.int .i64 sz] z (k-1):=by
 intro w h;have HM:=hi_ (MvM.start h z k #[.int .i64 2,.int .i64 z,.int .i64 nz,a3,a4,.int .i64 ix,a6,a7,a8,.int .i64 ct,.int .i64 sz]);have HO:=hi_ h;clear h;have QC:=hi_ hC;clear hC;have i1:decide (k > ix)=true:=decide_eq_true (by omega);have i2:decide (ix<k)=true:=decide_eq_true (by omega);have i3:ix<k:=by omega
 go_enter Tryz.func27,Tryz.ntmps27
 go_upto_region 1 with fail
 generalize World.alloc _ _=w1 at *;obtain⟨⟨p0,p1,pf,pl⟩,⟨r0,r1,r2,r5,r9,r10,rl⟩,⟨o0,o1,of0,of1,ol⟩⟩:=HM.out.cells;go_wp2_with fail
 refine(QC.out _ HM.out.mod).mono ?_;rintro e w1' ⟨rfl,rfl⟩;clear p0 p1 pf pl r0 r1 r2 r5 r9 r10 rl o0 o1 of0 of1 ol;obtain⟨⟨p0,p1,pf,pl⟩,⟨r0,r1,r2,r5,r9,r10,rl⟩,⟨o0,o1,of0,of1,ol⟩⟩:=HM.out.cells;go_upto_region 15 with fail
 clear p0 p1 pf pl r0 r1 r2 r5 r9 r10 rl o0 o1 of0 of1 ol;have HM2:=hi_ (HM.out.idx HO.out (k-1));clear HM;have HM:=HM2;clear HM2;generalize w1.setCell ⟨w.heap.size,1,none⟩ (.int .i64 (k-1))=w2 at *;obtain⟨hb,hv⟩:=HM.out.res z (k-1);have HB:=hi_ hb;have HV:=hi_ hv;clear hb hv;obtain⟨⟨p0,p1,pf,pl⟩,⟨r0,r1,r2,r5,r9,r10,rl⟩,⟨o0,o1,of0,of1,ol⟩⟩:=HM.out.cells;go_wp2_with fail
 clear p0 p1 pf pl r0 r1 r2 r5 r9 r10 rl o0 o1 of0 of1 ol;obtain⟨v0,v1⟩:=a3_ HV.out
 (try simp only[Exit.inBlock,Exit.then])
 exact bodyPost_ret (v:=.agg #[.int .i64 z,.int .i64 (k-1)]) (by simp[results,Tryz.results27,go_sem,v0,v1]) rfl ⟨rfl,HB.out⟩
theorem mv_4_in(M:aF_)(z k kd tz nz ix ct sz:Int)(a3 a4 a6 a7 a8:Value)(hi:¬k<=ix)(hj:k<=ix+ct)(hw:IntKind.i64.wrap (ix+ct)=ix+ct):kE_ M z k #[.int .i64 4,.int .i64 z,.int .i64 nz,a3,a4,.int .i64 ix,a6,a7,a8,.int .i64 ct,.int .i64 sz] z ix:=by
 intro w h;have HM:=hi_ (MvM.start h z k #[.int .i64 4,.int .i64 z,.int .i64 nz,a3,a4,.int .i64 ix,a6,a7,a8,.int .i64 ct,.int .i64 sz]);have HO:=hi_ h;clear h;have i1:decide (k > ix)=true:=decide_eq_true (by omega);have i2:decide (ix<k)=true:=decide_eq_true (by omega);have i3:ix<k:=by omega
 have j1:decide (k<=ix+ct)=true:=decide_eq_true hj
 go_enter Tryz.func27,Tryz.ntmps27
 go_upto_region 1 with fail
 generalize World.alloc _ _=w1 at *;obtain⟨⟨p0,p1,pf,pl⟩,⟨r0,r1,r2,r5,r9,r10,rl⟩,⟨o0,o1,of0,of1,ol⟩⟩:=HM.out.cells;go_upto_region 15 with fail
 clear p0 p1 pf pl r0 r1 r2 r5 r9 r10 rl o0 o1 of0 of1 ol;have HM2:=hi_ (HM.out.idx HO.out (ix));clear HM;have HM:=HM2;clear HM2;generalize w1.setCell ⟨w.heap.size,1,none⟩ (.int .i64 (ix))=w2 at *;obtain⟨hb,hv⟩:=HM.out.res z (ix);have HB:=hi_ hb;have HV:=hi_ hv;clear hb hv;obtain⟨⟨p0,p1,pf,pl⟩,⟨r0,r1,r2,r5,r9,r10,rl⟩,⟨o0,o1,of0,of1,ol⟩⟩:=HM.out.cells;go_wp2_with fail
 clear p0 p1 pf pl r0 r1 r2 r5 r9 r10 rl o0 o1 of0 of1 ol;obtain⟨v0,v1⟩:=a3_ HV.out
 (try simp only[Exit.inBlock,Exit.then])
 exact bodyPost_ret (v:=.agg #[.int .i64 z,.int .i64 (ix)]) (by simp[results,Tryz.results27,go_sem,v0,v1]) rfl ⟨rfl,HB.out⟩
theorem mX_(M:aF_)(z k kd tz nz ix ct sz:Int)(a3 a4 a6 a7 a8:Value)(hi:¬k<=ix)(hj:¬k<=ix+ct)(hw:IntKind.i64.wrap (ix+ct)=ix+ct)(hw2:IntKind.i64.wrap (sz-ct)=sz-ct)(hw3:IntKind.i64.wrap (k+(sz-ct))=k+(sz-ct)):kE_ M z k #[.int .i64 4,.int .i64 z,.int .i64 nz,a3,a4,.int .i64 ix,a6,a7,a8,.int .i64 ct,.int .i64 sz] z (k+(sz-ct)):=by
 intro w h;have HM:=hi_ (MvM.start h z k #[.int .i64 4,.int .i64 z,.int .i64 nz,a3,a4,.int .i64 ix,a6,a7,a8,.int .i64 ct,.int .i64 sz]);have HO:=hi_ h;clear h;have i1:decide (k > ix)=true:=decide_eq_true (by omega);have i2:decide (ix<k)=true:=decide_eq_true (by omega);have i3:ix<k:=by omega
 have j1:decide (k<=ix+ct)=false:=decide_eq_false hj
 go_enter Tryz.func27,Tryz.ntmps27
 go_upto_region 1 with fail
 generalize World.alloc _ _=w1 at *;obtain⟨⟨p0,p1,pf,pl⟩,⟨r0,r1,r2,r5,r9,r10,rl⟩,⟨o0,o1,of0,of1,ol⟩⟩:=HM.out.cells;go_upto_region 15 with fail
 clear p0 p1 pf pl r0 r1 r2 r5 r9 r10 rl o0 o1 of0 of1 ol;have HM2:=hi_ (HM.out.idx HO.out (k+(sz-ct)));clear HM;have HM:=HM2;clear HM2;generalize w1.setCell ⟨w.heap.size,1,none⟩ (.int .i64 (k+(sz-ct)))=w2 at *;obtain⟨hb,hv⟩:=HM.out.res z (k+(sz-ct));have HB:=hi_ hb;have HV:=hi_ hv;clear hb hv;obtain⟨⟨p0,p1,pf,pl⟩,⟨r0,r1,r2,r5,r9,r10,rl⟩,⟨o0,o1,of0,of1,ol⟩⟩:=HM.out.cells;go_wp2_with fail
 clear p0 p1 pf pl r0 r1 r2 r5 r9 r10 rl o0 o1 of0 of1 ol;obtain⟨v0,v1⟩:=a3_ HV.out
 (try simp only[Exit.inBlock,Exit.then])
 exact bodyPost_ret (v:=.agg #[.int .i64 z,.int .i64 (k+(sz-ct))]) (by simp[results,Tryz.results27,go_sem,v0,v1]) rfl ⟨rfl,HB.out⟩
theorem mv_o(M:aF_)(z k kd tz nz ix ct sz:Int)(a3 a4 a6 a7 a8:Value)(k1:¬kd=1)(k2:¬kd=2)(k4:¬kd=4):kE_ M z k #[.int .i64 kd,.int .i64 tz,.int .i64 nz,a3,a4,.int .i64 ix,a6,a7,a8,.int .i64 ct,.int .i64 sz] z k:=by
 intro w h;have HM:=hi_ (MvM.start h z k #[.int .i64 kd,.int .i64 tz,.int .i64 nz,a3,a4,.int .i64 ix,a6,a7,a8,.int .i64 ct,.int .i64 sz]);have HO:=hi_ h;clear h;have e1:(kd==1)=false:=bn_ k1;have e2:(kd==2)=false:=bn_ k2;have e4:(kd==4)=false:=bn_ k4
 go_enter Tryz.func27,Tryz.ntmps27
 go_upto_region 1 with fail
 generalize World.alloc _ _=w1 at *;obtain⟨⟨p0,p1,pf,pl⟩,⟨r0,r1,r2,r5,r9,r10,rl⟩,⟨o0,o1,of0,of1,ol⟩⟩:=HM.out.cells;go_upto_region 15 with fail
 clear p0 p1 pf pl r0 r1 r2 r5 r9 r10 rl o0 o1 of0 of1 ol;obtain⟨hb,hv⟩:=HM.out.res z k;have HB:=hi_ hb;have HV:=hi_ hv;clear hb hv;obtain⟨⟨p0,p1,pf,pl⟩,⟨r0,r1,r2,r5,r9,r10,rl⟩,⟨o0,o1,of0,of1,ol⟩⟩:=HM.out.cells;go_wp2_with fail
 clear p0 p1 pf pl r0 r1 r2 r5 r9 r10 rl o0 o1 of0 of1 ol;obtain⟨v0,v1⟩:=a3_ HV.out
 (try simp only[Exit.inBlock,Exit.then])
 exact bodyPost_ret (v:=.agg #[.int .i64 z,.int .i64 k]) (by simp[results,Tryz.results27,go_sem,v0,v1]) rfl ⟨rfl,HB.out⟩
end A
end
section
open Go.RowKit Go.Sort
namespace A
open H G R
theorem j6_{m:aa_}(W:WF m){a b:Nat×Nat}(ht:top m a.1=top m b.1):lcmp m a b=-1\/lcmp m a b=0\/lcmp m a b=1:=j7_ W ht
theorem hd_or{T:am_}{m:aa_}{pos:Nat->Nat}(F:Fits T m pos){a b i j:Nat}(ha:has m a=true)(hb:has m b=true)(h:(b,j)≠(a,i)):hd T pos a≠hd T pos b\/(i:Int)≠(j:Int):=by
 by_cases e:hd T pos a=hd T pos b
 ·right
  have e2:=dB_ F ha hb e;intro e3;exact h (by rw[e2,show j=i by omega])
 ·exact Or.inl e
section
variable {T:am_} {m:aa_} {pos:Nat->Nat} {a b i j:Nat}
theorem nd_(F:Fits T m pos)(ha:has m a=true)(hb:has m b=true)(ka:i<=G.sizeOf m a)(kb:j<=G.sizeOf m b)(ht:top m b=top m a) :
  (lcmp m (b,j) (a,i)=-1/\bJ_ m (b,j) (a,i) (hd T pos b) (j:Nat) ⟨1,hd T pos a,(i:Nat),hd T pos a,(i:Nat)⟩=⟨1,hd T pos b,(j:Nat),hd T pos b,(j:Nat)⟩) ∨
  (lcmp m (b,j) (a,i)=0/\b=a/\j=i/\bJ_ m (b,j) (a,i) (hd T pos b) (j:Nat) ⟨1,hd T pos a,(i:Nat),hd T pos a,(i:Nat)⟩=⟨1,hd T pos a,(i:Nat),hd T pos a,(i:Nat)⟩) ∨
  (lcmp m (b,j) (a,i)=1/\(hd T pos a≠hd T pos b\/(i:Int)≠(j:Int))/\bJ_ m (b,j) (a,i) (hd T pos b) (j:Nat) ⟨1,hd T pos a,(i:Nat),hd T pos a,(i:Nat)⟩=⟨1,hd T pos a,(i:Nat),hd T pos b,(j:Nat)⟩):=by
 have hc:c3_ m (b,j) (a,i)=(lcmp m (b,j) (a,i),0):=if_neg (fun h=>h ht);have hPb:cU_ m (b,j):=⟨aR_ hb,kb⟩;have hPa:cU_ m (a,i):=⟨aR_ ha,ka⟩
 rcases j6_ F.wf (a:=(b,j)) (b:=(a,i)) ht with h|h|h
 ·left
  refine⟨h,?_⟩;unfold bJ_;rw[hc,h,if_pos (Or.inr rfl)]
 ·right;left
  have e:=iq_ F.wf hPb hPa ht h;injection e with e1 e2
  refine⟨h,e1,e2,?_⟩;unfold bJ_;rw[hc,h,if_neg (by decide)];unfold ci_;rw[e1,e2]
 ·right;right
  refine⟨h,hd_or F ha hb (fun e=>?_),?_⟩
  ·rw[e,lA_]at h;cases h
  ·unfold bJ_
   rw[hc,h,if_neg (by decide)];rfl
theorem rg_two(ha:has m a=true)(hb:has m b=true)(ka:i<=G.sizeOf m a)(kb:j<=G.sizeOf m b)(ht:top m a=top m b)(hc:lcmp m (a,i) (b,j)<=0):RgOk T m pos ⟨1,hd T pos a,(i:Nat),hd T pos b,(j:Nat)⟩:=⟨(a,i),(b,j),⟨rfl,rfl,rfl,rfl⟩,⟨ha,hb⟩,⟨ka,kb⟩,ht,hc⟩
end
end A
end
end Go.Proofs.YtinphfpdfodkkaaGreatDoor
