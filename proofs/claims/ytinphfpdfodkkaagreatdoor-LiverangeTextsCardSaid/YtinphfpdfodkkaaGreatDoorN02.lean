/- Texts of the proof. -/
import Derived.Test.YtinphfpdfodkkaaGreatDoorN01
import Derived.Test.YtinphfpdfodkkaaGreatDoorM34
import Derived.Test.YtinphfpdfodkkaaGreatDoorM21
import Derived.Test.YtinphfpdfodkkaaGreatDoorM38
import Derived.Test.YtinphfpdfodkkaaGreatDoorM45
import Derived.Test.YtinphfpdfodkkaaGreatDoorM41
import Derived.Test.YtinphfpdfodkkaaGreatDoorM39
import Derived.Test.YtinphfpdfodkkaaGreatDoorM36
import Derived.Test.YtinphfpdfodkkaaGreatDoorM37
import Derived.Test.YtinphfpdfodkkaaGreatDoorM24
set_option linter.unusedVariables false
set_option linter.unusedSimpArgs false
set_option maxHeartbeats 8000000
set_option maxRecDepth 100000
namespace Go.Proofs.YtinphfpdfodkkaaGreatDoor
section
open Go.RowKit Go.Sort
namespace G
def okOp(o:Op):Bool:=decide (o.s.length<=40) && decide (o.t.length<=40)
def few(os:List Op):Bool:=os.all okOp && decide (os.length<=60)
end G
namespace A
open H G R
def ocells(o:G.Op):List Value:=[.int .u8 (o.kind:Nat),.int .u8 (o.a:Nat),.int .u8 (o.b:Nat),.int .u8 (o.c:Nat),.string ⟨o.s.toArray⟩,.string ⟨o.t.toArray⟩,.int .i8 o.n,.int .i8 o.k]
def OpsAt(w:World)(v:Value)(os:List G.Op):Prop:=
 ∃ao cap,v=.slice ao os.length cap/\(0<os.length->∃b off,ao=some ⟨b,off,none⟩/\b<w.heap.size/\∀j (hj:j<os.length) k,k<8->w.cell? ⟨b,off+j*8+k,none⟩=(ocells os[j])[k]?)
theorem OpsAt.below{w w':World}{v:Value}{os:List G.Op}(h:OpsAt w v os)(hb:Below w.heap.size w w'):OpsAt w' v os:=by
 obtain⟨ao,cap,hv,h⟩:=h;refine⟨ao,cap,hv,fun hl=>?_⟩;obtain⟨b,off,e,hlt,hc⟩:=h hl;refine⟨b,off,e,Nat.lt_of_lt_of_le hlt hb.size,fun j hj k hk=>?_⟩;rw[<-hc j hj k hk];have:=hb.block b hlt;simp only[World.cell?,this]
theorem OpsAt.at{w:World}{ao:Option Addr}{n cap:Nat}{os:List G.Op}(h:OpsAt w (.slice ao n cap) os)(hl:0<os.length):∃b off,ao=some ⟨b,off,none⟩/\b<w.heap.size/\∀j (hj:j<os.length) k,k<8->w.cell? ⟨b,off+j*8+k,none⟩=(ocells os[j])[k]?:=by
 obtain⟨ao',cap',hv,h⟩:=h;injection hv with h1 h2 h3
 subst h1;exact h hl
theorem few_all{os:List G.Op}(h:∀o,o∈os->okOp o=true):few os=decide (os.length<=60):=by
 unfold few;rw[List.all_eq_true.2 h,Bool.true_and]
theorem few_bad{os:List G.Op}{o:G.Op}(ho:o∈os)(h:okOp o=false):few os=false:=by
 unfold few;have:os.all okOp=false:=by
  rw[Bool.eq_false_iff];intro e;have:=List.all_eq_true.1 e o ho;rw[h]at this
  cases this
 rw[this,Bool.false_and]
theorem few_(os:List G.Op)(v:Value)(w:World)(h:OpsAt w v os)(hl:os.length<=9223372036854775807) :
  Calls Tryz.prog 10 #[v] w fun e w'=>e=.returned (.bool (few os))/\w=w':=by
 obtain⟨ao,cap,hv,_⟩:=id h;subst hv;have HR:=hi_ h;clear h;obtain⟨R,hR⟩:∃R,R=few os:=⟨_,rfl⟩;have HRr:=hi_ hR;rw[<-hR];clear hR
 go_enter Tryz.func10,Tryz.ntmps10
 go_wp2_with fail
 go_loopw [3] (fun v3 wr=>∃i:Nat,v3=.int .i64 (i:Nat)/\i<=os.length/\wr=w/\Hid (∀j (hj:j<os.length),j<i->okOp os[j]=true))
  (fun v3 _=>os.length-(Go.RowKit.intOf v3).toNat)
 case atStart=>exact⟨0,rfl,Nat.zero_le _,rfl,hi_ (fun j _ hj=>by omega)⟩
 case round=>
  obtain⟨i,rfl,hi,rfl,HI⟩:=hrel
  rcases Nat.lt_or_ge i os.length with hlt|hge
  ·have hii:(i:Int)<(os.length:Int):=by omega
   have hi0:(0:Int)<=(i:Int):=by omega
   obtain⟨g,off,e1,hgl,hcc⟩:=HR.out.at (by omega);subst e1;have c4':wr.cell? ⟨g,off+i*8+4,none⟩=some (.string ⟨os[i].s.toArray⟩):=hcc i hlt 4 (by omega);have c5':wr.cell? ⟨g,off+i*8+5,none⟩=some (.string ⟨os[i].t.toArray⟩):=hcc i hlt 5 (by omega);clear hcc;have HIm:=hi_ (List.getElem_mem hlt);have HNx:Hid (okOp os[i]=true->∀j (hj:j<os.length),j<i+1->okOp os[j]=true):=hi_ (fun ho j hj hj2=>by
    rcases Nat.lt_or_ge j i with h1|h1
    ·exact HI.out j hj h1
    ·have:j=i:=by omega
     subst this;exact ho)
   generalize os[i]=o at *
   by_cases hs:o.s.length<=40
   ·have hs2:decide ((40:Int)<(o.s.length:Int))=false:=decide_eq_false (by omega)
    by_cases ht:o.t.length<=40
    ·have ht2:decide ((40:Int)<(o.t.length:Int))=false:=decide_eq_false (by omega)
     have HN2:=hi_ (HNx.out (by unfold okOp;rw[decide_eq_true hs,decide_eq_true ht];rfl));clear hs ht;go_wp2_with fail
     go_roundw
     case rel=>exact⟨i+1,by go_num,by omega,trivial,HN2⟩
     case measure=>simp[Go.RowKit.intOf];omega
    ·have ht2:decide ((40:Int)<(o.t.length:Int))=true:=decide_eq_true (by omega)
     have HB:Hid (R=false):=hi_ (HRr.out.trans (few_bad HIm.out (by unfold okOp;rw[decide_eq_true hs,decide_eq_false ht];rfl)));clear hs ht;go_wp2_with fail
     exact bodyPost_ret (v:=.bool false) (by simp[results,Tryz.results10,go_sem]) rfl ⟨by rw[HB.out],rfl⟩
   ·have hs2:decide ((40:Int)<(o.s.length:Int))=true:=decide_eq_true (by omega)
    have HB:Hid (R=false):=hi_ (HRr.out.trans (few_bad HIm.out (by unfold okOp;rw[decide_eq_false hs];rfl)));clear hs;go_wp2_with fail
    exact bodyPost_ret (v:=.bool false) (by simp[results,Tryz.results10,go_sem]) rfl ⟨by rw[HB.out],rfl⟩
  ·have hie:i=os.length:=by omega
   have HB:Hid (R=decide (os.length<=60)):=hi_ (HRr.out.trans (few_all (fun o ho=>by
    obtain⟨j,hj,e⟩:=List.getElem_of_mem ho;rw[<-e];exact HI.out j hj (by omega))))
   subst hie;have hnot:¬((os.length:Nat):Int)<((os.length:Nat):Int):=by omega
   have HE:Hid (decide ((os.length:Int)<=60)=decide (os.length<=60)):=hi_ (by congr 1;exact propext ⟨fun h=>by omega,fun h=>by omega⟩);go_wp2_with fail
   exact bodyPost_ret (v:=.bool (decide ((os.length:Int)<=60))) (by simp[results,Tryz.results10,go_sem]) rfl ⟨by rw[HB.out,HE.out],rfl⟩
end A
end
section
open Go.RowKit Go.Sort
namespace A
open H G R
theorem do_(w0 w:World)(X:Tw)(o:G.Op)(k:Nat)(h:TwIs w0 w X)(hF:Fit w0 X o k) :
  Calls Tryz.prog 24 #[.pointer (some ⟨X.tb,0,none⟩),opV o] w fun e w'=>DoIs w0 w X o e w':=by
 have hlt:o.kind % 10<10:=Nat.mod_lt _ (by omega)
 by_cases k0:o.kind % 10<3
 ·exact do012 w0 w X o k h hF k0
 by_cases k3:o.kind % 10=3
 ·cases hA:has X.m (o.at_ X.m) with
  |false=>exact do3_1 w0 w X o k h hF k3 hA
  |true=>
   cases hB:has X.m (o.bt X.m) with
   |false=>exact do3_2 w0 w X o k h hF k3 hA hB
   |true=>
    cases hC:o.ct X.m with
    |none=>exact do3_4 w0 w X o k h hF k3 hA hB hC
    |some ci=>
     cases hI:has X.m ci with
     |false=>exact do3_3 w0 w X o k h hF k3 hA hB ci hC hI
     |true=>exact do3_5 w0 w X o k h hF k3 hA hB ci hC hI
 by_cases k4:o.kind % 10=4
 ·exact do4 w0 w X o k h hF k4
 by_cases k5:o.kind % 10=5
 ·exact do5 w0 w X o k h hF k5
 by_cases k6:o.kind % 10=6
 ·exact do6 w0 w X o k h hF k6
 by_cases k7:o.kind % 10=7
 ·exact do7 w0 w X o k h hF k7
 by_cases k8:o.kind % 10=8
 ·exact do8 w0 w X o k h hF k8
 have k9:o.kind % 10=9:=by omega
 cases hA:has X.m (o.at_ X.m) with
 |false=>exact do9_1 w0 w X o k h hF k9 hA
 |true=>exact do9_2 w0 w X o k h hF k9 hA
end A
end
section
open Go.RowKit Go.Sort
namespace G
def runO:List Op->Model->Model
 |[],m=>m
 |o :: os,m=>if m.length<120 then runO os (step none m o).2.2 else m
theorem runO_stop{os:List Op}{m:Model}(h:¬m.length<120):runO os m=m:=by
 cases os with
 |nil=>rfl
 |cons o os=>rw[runO,if_neg h]
def Op.fits(o:Op):Prop:=(o.kind<256/\o.a<256/\o.b<256/\o.c<256)/\(-128<=o.n/\o.n<=127)/\(-128<=o.k/\o.k<=127)
end G
namespace A
open H G R
theorem fit_run{w wr:World}{X:Tw}{o:G.Op}{i:Nat}(h:TwIs w wr X)(hM:X.M.m=X.m)(hl:X.m.length<120)(hi:i<60)(hok:AllN (OkBod i) X.m)(ho:okOp o=true)(hf:o.fits)(ht:UTabs w):Fit w X o i/\G.step (some 64) X.m o=G.step none X.m o:=by
 have hs:G.step (some 64) X.m o=G.step none X.m o:=step_lim (fun j=>by have:=(hok j).1;unfold bod at this;dsimp only at this;omega);unfold okOp at ho;rw[Bool.and_eq_true,decide_eq_true_eq,decide_eq_true_eq]at ho;exact⟨⟨by omega,hok,by rw[hM];exact hok,by omega,ho.1,ho.2,hf.2.1,hf.2.2,hf.1,ht,Or.inl (by rw[hM,hs]),by rw[hM,hs];exact Sim.refl _⟩,hs⟩
end A
end
section
open Go.RowKit Go.Sort
namespace A
open H G R
theorem endsEnd(g o:Nat)(w:World):Calls Tryz.prog 47 #[.pointer (some ⟨g,o,none⟩)] w fun e w'=>e=.returned (.tuple #[.pointer (some ⟨g,o+3,none⟩),.pointer (some ⟨g,o+1,none⟩)])/\Below w.heap.size w w':=by
 have HB:=hi_ (Below.refl w.heap.size w)
 go_enter Tryz.func47,Tryz.ntmps47
 go_upto_region 1 with fail
 refine wp_region_later (by kernel_rfl) (by kernel_rfl) ?_;repeat (go_big_quiet_step (fail))
 refine wq_ (fun dq=>?_);have HD:=hi_ dq.h;generalize dq.w=w2 at *;go_wp2_with fail
 refine bodyPost_ret (v:=.tuple #[.pointer (some ⟨g,o+3,none⟩),.pointer (some ⟨g,o+1,none⟩)]) (by simp[results,Tryz.results47,go_sem]) rfl ⟨rfl,HD.out⟩
def putEnd(r:Rg)(z k:Int):Rg:={ r with en:=z,ei:=k }
def movedEnd(m:Model)(a b:Nat×Nat)(z k:Int)(r:Rg):Rg:=if (cmpRes m a b).2≠0\/(cmpRes m a b).1=(-1) then⟨r.id,z,k,z,k⟩else putEnd r z k
theorem setEnd_in(T:TMem)(m:Model)(pos:Nat->Nat)(S:SMem)(id:Int)(i:Nat)(a b:Nat×Nat)(w:World)(hT:TreeIs w T m pos)(hS:SetMem w S)(hm:Small m)(hfi:findR S.rs id=some i)(hi:i<S.rs.length)
  (ha:has m a.1=true) (ka:a.2<=G.sizeOf m a.1) (kA:a.2<=1000000) (hb:has m b.1=true) (kb:b.2<=G.sizeOf m b.1) (kB:b.2<=1000000) (hbz:S.rs[i].sn=hd T pos b.1) (hbk:S.rs[i].si=(b.2:Nat)) :
  Calls Tryz.prog 45 #[.pointer (some ⟨S.sb,0,none⟩),.pointer (some ⟨T.tb,0,none⟩),.int .i64 id,pointV (hd T pos a.1) (a.2:Nat),.func (.func 47) #[] #[],.int .i64 (-1)] w fun e w'=>e=.returned (.int .i64 0)/\H.Frame S.foot w w' ∧
   SetMem w' { S with rs:=S.rs.modify i (movedEnd m a b (hd T pos a.1) (a.2:Nat)) }:=by
 have hb1:=((Below.refl w.heap.size w).alloc (Nat.le_refl _) (.cells #[.int .i64 (hd T pos a.1),.int .i64 (a.2:Nat)] 31));have hx:=Blk.new w #[.int .i64 (hd T pos a.1),.int .i64 (a.2:Nat)] 31;have HB1:=hi_ hb1;have HX1:=hi_ hx;have HT1:=hi_ (hT.below hb1);have HS1:=hi_ (hS.below hb1);have HNx:Hid (¬S.foot w.heap.size):=hi_ (fun h=>Nat.lt_irrefl _ (hS.foot_lt h));have hp:PtIs T m pos (hd T pos a.1) (a.2:Nat) 0:=Or.inl ⟨a.1,ha,rfl,by rw[if_pos (okPt_of ka)]⟩;have QC:=hi_ (fun W (hW:TreeIs W T m pos)=>check_ T m pos _ _ _ W hW hm hp);have QL:=hi_ (fun W (hW:TreeIs W T m pos)=>lcompare T m pos a b W hW hm ha hb (okPt_of ka) (okPt_of kb) kA kB);obtain⟨ao,cap,hrv⟩:=RecRow.slice hS.rows;obtain⟨g,cap',e,_,hgl,_⟩:=own_some hS.rows (by omega);rw[hrv]at e;injection e with e1 e2 e3
 subst e1 e3;have hptr:=ptr_some hrv hfi;have QF:=hi_ (find_ S id _ HS1.out);rw[hptr]at QF;have QE:=hi_ (fun W=>endsEnd g (i*5) W);have HRv:=hi_ hrv;have HOb:Hid (S.rv.ownBlock=some g):=hi_ (by rw[hrv];rfl);have HBz:=hi_ hbz;have HBk:=hi_ hbk;have HMa:Hid (((cmpRes m a b).2≠0\/(cmpRes m a b).1=(-1))->movedEnd m a b (hd T pos a.1) (a.2:Nat)=fun r=>⟨r.id,hd T pos a.1,(a.2:Nat),hd T pos a.1,(a.2:Nat)⟩):=hi_ (fun h=>funext fun r=>if_pos h);have HMb:Hid ((¬((cmpRes m a b).2≠0\/(cmpRes m a b).1=(-1)))->movedEnd m a b (hd T pos a.1) (a.2:Nat)=fun r=>putEnd r (hd T pos a.1) (a.2:Nat)):=hi_ (fun h=>funext fun r=>if_neg h);generalize movedEnd m a b (hd T pos a.1) (a.2:Nat)=MV at *;generalize cmpRes m a b=res at *;generalize hd T pos a.1=za at *;generalize ((a.2:Nat):Int)=ak at *
 generalize hd T pos b.1=zb at *;generalize ((b.2:Nat):Int)=bk at *;obtain⟨rc,re⟩:=res;dsimp only at QL HMa HMb;unfold pointV at *;clear hT hS hm hp hfi ha ka kA hb kb kB hbz hbk hrv hx hb1 hptr
 go_enter Tryz.func45,Tryz.ntmps45
 go_wp2_with fail
 generalize w.alloc (.cells #[.int .i64 za,.int .i64 ak] 31)=w1 at *;refine QF.out.mono ?_;rintro e w1' ⟨rfl,rfl⟩;obtain⟨b0,b1⟩:=cells2 HX1.out;go_wp2_with fail
 refine(QC.out _ HT1.out).mono ?_;rintro e w2 ⟨rfl,hb2⟩;have HB2:=bt_ HB1 hb2;have HX2:=hi_ (HX1.out.below hb2);have HT2:=hi_ (HT1.out.below hb2);have HS2:=hi_ (HS1.out.below hb2);clear hb2 QF b0 b1 HX1 HT1 HS1;go_wp2_with fail
 refine(QE.out _).mono ?_;rintro e w3 ⟨rfl,hb3⟩;have HB3:=bt_ HB2 hb3;have HX3:=hi_ (HX2.out.below hb3);have HT3:=hi_ (HT2.out.below hb3);have HS3:=hi_ (HS2.out.below hb3);clear hb3 QE HX2 HT2 HS2;obtain⟨b0,b1⟩:=cells2 HX3.out;have hro:RecRow rgcells S.B 54 5 w3 (.slice (some ⟨g,0,none⟩) S.rs.length cap) S.rs:=by have:=HS3.out.rows;rwa [HRv.out]at this
 have hg3:=(ownsRow_open hro).1;have f1:=(RecRow.cell rgcells_len hro hi (k:=3) (by omega)).2;have f2:w3.frozen? ⟨g,i*5+3+1,none⟩=false:=(RecRow.cell rgcells_len hro hi (k:=4) (by omega)).2;have c1:w3.cell? ⟨g,i*5+3,none⟩=some (.int .i64 S.rs[i].en):=(RecRow.cell rgcells_len hro hi (k:=3) (by omega)).1;have c2:w3.cell? ⟨g,i*5+3+1,none⟩=some (.int .i64 S.rs[i].ei):=(RecRow.cell rgcells_len hro hi (k:=4) (by omega)).1;clear hro;go_upto_region 9 with fail
 have HS4:Hid (SetMem ((w3.setCell ⟨g,i*5+3,none⟩ (.int .i64 za)).setCell ⟨g,i*5+3+1,none⟩ (.int .i64 ak)) { S with rs:=S.rs.modify i (fun r=>putEnd r za ak) }):=hi_ (by
  have h1:=HS3.out.put HRv.out hi (k:=3) (by omega) (.int .i64 za) (fun r=>{ r with en:=za }) rfl;have h2:=h1.put (by show S.rv=.slice _ (S.rs.modify i _).length cap;rw[List.length_modify];exact HRv.out) (by show i<(S.rs.modify i _).length;rw[List.length_modify];exact hi) (k:=4) (by omega) (.int .i64 ak) (fun r=>{ r with ei:=ak }) rfl;have e:(S.rs.modify i (fun r=>{ r with en:=za })).modify i (fun r=>{ r with ei:=ak })=S.rs.modify i (fun r=>putEnd r za ak):=by
   rw[List.modify_modify_eq];rfl
  rw[show({ S with rs:=S.rs.modify i (fun r=>putEnd r za ak) }:SMem)={ S with rs:=(S.rs.modify i (fun r=>{ r with en:=za })).modify i (fun r=>{ r with ei:=ak }) } by rw[e]];exact h2)
 have hF34:=Frame.set (S:=S.foot) (Frame.set (S:=S.foot) (H.Frame.refl S.foot w3) (g:=g) (Or.inl (Or.inr (Or.inl HOb.out))) (i*5+3) (.int .i64 za)) (g:=g) (Or.inl (Or.inr (Or.inl HOb.out))) (i*5+3+1) (.int .i64 ak);have HX4:=hi_ (HX3.out.frame hF34 HNx.out);have HT4:=hi_ (HT3.out.frame HS3.out hF34);have HF4:Hid (H.Frame S.foot w _):=hi_ ((Frame.of HB3.out).trans hF34 (fun b hb=>Or.inl hb));clear hF34 b0 b1 hg3 f1 f2 c1 c2;generalize (w3.setCell ⟨g,i*5+3,none⟩ (.int .i64 za)).setCell ⟨g,i*5+3+1,none⟩ (.int .i64 ak)=w4 at *;have hi4:i<(S.rs.modify i (fun r=>putEnd r za ak)).length:=by rw[List.length_modify];exact hi
 have hat:(S.rs.modify i (fun r=>putEnd r za ak))[i]=putEnd S.rs[i] za ak:=List.getElem_modify_eq ..;have HAt:=hi_ hat;have hro:RecRow rgcells S.B 54 5 w4 (.slice (some ⟨g,0,none⟩) (S.rs.modify i (fun r=>putEnd r za ak)).length cap) (S.rs.modify i (fun r=>putEnd r za ak)):=by have h1:RecRow rgcells S.B 54 5 w4 S.rv _:=HS4.out.rows;rw[HRv.out]at h1;rw[List.length_modify];exact h1
 have c3:w4.cell? ⟨g,i*5+1,none⟩=some (.int .i64 zb):=by rw[(RecRow.cell rgcells_len hro hi4 (k:=1) (by omega)).1,hat];exact congrArg (fun z=>some (Value.int .i64 z)) HBz.out
 have c4:w4.cell? ⟨g,i*5+1+1,none⟩=some (.int .i64 bk):=by rw[show i*5+1+1=i*5+2 from rfl,(RecRow.cell rgcells_len hro hi4 (k:=2) (by omega)).1,hat];exact congrArg (fun z=>some (Value.int .i64 z)) HBk.out
 have hg4:=(ownsRow_open hro).1;obtain⟨b0,b1⟩:=cells2 HX4.out;have hbl:=HX4.out.lt;have D0:=lc_ b0 hbl;have D1:=lc_ b1 hbl;have D2:=lc_ c3 hg4;have D3:=lc_ c4 hg4;clear hat hro;refine wp_region_later (by kernel_rfl) (by kernel_rfl) ?_;repeat (go_big_quiet_step ((go_at_call 13;exact Calls.later (QL.out _ (HT4.out.below (Later.h _))))))
 refine wq_ (fun dq=>?_);have HX5:=hi_ (HX4.out.below dq.h);have HS5:=hi_ (HS4.out.below dq.h);have HF5:=hi_ (HF4.out.below_ dq.h);clear D0 D1 D2 D3 b0 b1 c3 c4 hbl hg4 HX4 HS4 HT4 HF4;generalize dq.w=w5 at *;clear dq;have hi5:i<(S.rs.modify i (fun r=>putEnd r za ak)).length:=hi4;have HRo5:Hid (RecRow rgcells S.B 54 5 w5 (.slice (some ⟨g,0,none⟩) (S.rs.modify i (fun r=>putEnd r za ak)).length cap) (S.rs.modify i (fun r=>putEnd r za ak))):=hi_ (by have h1:RecRow rgcells S.B 54 5 w5 S.rv _:=HS5.out.rows;rw[HRv.out]at h1;rw[List.length_modify];exact h1);obtain⟨b0,b1⟩:=cells2 HX5.out
 by_cases hre:re=0
 ·have e1:(re==0)=true:=by rw[hre];rfl
  have e2:(re != 0)=false:=by rw[hre];rfl
  by_cases hrc:rc=(-1)
  ·have e3:(rc==(-1))=true:=by rw[hrc];rfl
   have HMa:=hi_ (HMa.out (Or.inr hrc));have c3:w5.cell? ⟨g,i*5+1,none⟩=some (.int .i64 zb):=by rw[(RecRow.cell rgcells_len HRo5.out hi5 (k:=1) (by omega)).1,HAt.out];exact congrArg (fun z=>some (Value.int .i64 z)) HBz.out
   have c4:w5.cell? ⟨g,i*5+1+1,none⟩=some (.int .i64 bk):=by rw[show i*5+1+1=i*5+2 from rfl,(RecRow.cell rgcells_len HRo5.out hi5 (k:=2) (by omega)).1,HAt.out];exact congrArg (fun z=>some (Value.int .i64 z)) HBk.out
   have f3:w5.frozen? ⟨g,i*5+1,none⟩=false:=(RecRow.cell rgcells_len HRo5.out hi5 (k:=1) (by omega)).2;have f4:w5.frozen? ⟨g,i*5+1+1,none⟩=false:=(RecRow.cell rgcells_len HRo5.out hi5 (k:=2) (by omega)).2;have hg5:=(ownsRow_open HRo5.out).1;have HS6:Hid (SetMem ((w5.setCell ⟨g,i*5+1,none⟩ (.int .i64 za)).setCell ⟨g,i*5+1+1,none⟩ (.int .i64 ak)) { S with rs:=S.rs.modify i MV }):=hi_ (by
    have h1:=HS5.out.put (by show S.rv=.slice _ (S.rs.modify i _).length cap;rw[List.length_modify];exact HRv.out) hi5 (k:=1) (by omega) (.int .i64 za) (fun r=>{ r with sn:=za }) rfl;have h2:=h1.put (by show S.rv=.slice _ ((S.rs.modify i _).modify i _).length cap;rw[List.length_modify,List.length_modify];exact HRv.out) (by show i<((S.rs.modify i _).modify i _).length;rw[List.length_modify];exact hi5) (k:=2) (by omega) (.int .i64 ak) (fun r=>{ r with si:=ak }) rfl;have e:((S.rs.modify i (fun r=>putEnd r za ak)).modify i (fun r=>{ r with sn:=za })).modify i (fun r=>{ r with si:=ak })=S.rs.modify i MV:=by
     rw[List.modify_modify_eq,List.modify_modify_eq,HMa.out];rfl
    rw[show({ S with rs:=S.rs.modify i MV }:SMem)={ S with rs:=((S.rs.modify i (fun r=>putEnd r za ak)).modify i (fun r=>{ r with sn:=za })).modify i (fun r=>{ r with si:=ak }) } by rw[e]];exact h2)
   have HF6:=hi_ (Frame.set (S:=S.foot) (Frame.set (S:=S.foot) HF5.out (g:=g) (Or.inl (Or.inr (Or.inl HOb.out))) (i*5+1) (.int .i64 za)) (g:=g) (Or.inl (Or.inr (Or.inl HOb.out))) (i*5+1+1) (.int .i64 ak));go_wp2_with fail
   exact bodyPost_ret (v:=.int .i64 0) (by simp[results,Tryz.results45,go_sem]) rfl ⟨rfl,HF6.out,HS6.out⟩
  ·have e3:(rc==(-1))=false:=beq_eq_false_iff_ne.2 hrc
   have HMc:=hi_ (HMb.out (fun h=>h.elim (fun h=>h hre) hrc));have HS6:Hid (SetMem w5 { S with rs:=S.rs.modify i MV }):=hi_ (by rw[HMc.out];exact HS5.out);clear hre;go_wp2_with fail
   exact bodyPost_ret (v:=.int .i64 0) (by simp[results,Tryz.results45,go_sem]) rfl ⟨rfl,HF5.out,HS6.out⟩
 ·have e1:(re==0)=false:=beq_eq_false_iff_ne.2 hre
  have e2:(re != 0)=true:=bne_iff_ne.2 hre;have HMa:=hi_ (HMa.out (Or.inl hre));have c3:w5.cell? ⟨g,i*5+1,none⟩=some (.int .i64 zb):=by rw[(RecRow.cell rgcells_len HRo5.out hi5 (k:=1) (by omega)).1,HAt.out];exact congrArg (fun z=>some (Value.int .i64 z)) HBz.out
  have c4:w5.cell? ⟨g,i*5+1+1,none⟩=some (.int .i64 bk):=by rw[show i*5+1+1=i*5+2 from rfl,(RecRow.cell rgcells_len HRo5.out hi5 (k:=2) (by omega)).1,HAt.out];exact congrArg (fun z=>some (Value.int .i64 z)) HBk.out
  have f3:w5.frozen? ⟨g,i*5+1,none⟩=false:=(RecRow.cell rgcells_len HRo5.out hi5 (k:=1) (by omega)).2;have f4:w5.frozen? ⟨g,i*5+1+1,none⟩=false:=(RecRow.cell rgcells_len HRo5.out hi5 (k:=2) (by omega)).2;have hg5:=(ownsRow_open HRo5.out).1;have HS6:Hid (SetMem ((w5.setCell ⟨g,i*5+1,none⟩ (.int .i64 za)).setCell ⟨g,i*5+1+1,none⟩ (.int .i64 ak)) { S with rs:=S.rs.modify i MV }):=hi_ (by
   have h1:=HS5.out.put (by show S.rv=.slice _ (S.rs.modify i _).length cap;rw[List.length_modify];exact HRv.out) hi5 (k:=1) (by omega) (.int .i64 za) (fun r=>{ r with sn:=za }) rfl;have h2:=h1.put (by show S.rv=.slice _ ((S.rs.modify i _).modify i _).length cap;rw[List.length_modify,List.length_modify];exact HRv.out) (by show i<((S.rs.modify i _).modify i _).length;rw[List.length_modify];exact hi5) (k:=2) (by omega) (.int .i64 ak) (fun r=>{ r with si:=ak }) rfl;have e:((S.rs.modify i (fun r=>putEnd r za ak)).modify i (fun r=>{ r with sn:=za })).modify i (fun r=>{ r with si:=ak })=S.rs.modify i MV:=by
    rw[List.modify_modify_eq,List.modify_modify_eq,HMa.out];rfl
   rw[show({ S with rs:=S.rs.modify i MV }:SMem)={ S with rs:=((S.rs.modify i (fun r=>putEnd r za ak)).modify i (fun r=>{ r with sn:=za })).modify i (fun r=>{ r with si:=ak }) } by rw[e]];exact h2)
  have HF6:=hi_ (Frame.set (S:=S.foot) (Frame.set (S:=S.foot) HF5.out (g:=g) (Or.inl (Or.inr (Or.inl HOb.out))) (i*5+1) (.int .i64 za)) (g:=g) (Or.inl (Or.inr (Or.inl HOb.out))) (i*5+1+1) (.int .i64 ak));go_wp2_with fail
  exact bodyPost_ret (v:=.int .i64 0) (by simp[results,Tryz.results45,go_sem]) rfl ⟨rfl,HF6.out,HS6.out⟩
theorem doc_ok:AllN (OkBod 0) [docNode]:=by
 intro j;have e:bod (nd [docNode] j)=([],[]):=by
  cases j with
  |zero=>rfl
  |succ j=>rfl
 rw[e];exact⟨by simp,rfl,by simp⟩
theorem start11(os:List G.Op)(v:Value)(w:World)(h:OpsAt w v os)(hfew:few os=true)(hf:∀o,o∈os->o.fits)(ht:UTabs w) :
  Calls Tryz.prog 11 #[v] w fun e w'=>∃X,e=.returned (.pointer (some ⟨X.tb,0,none⟩))/\TwIs w w' X/\X.M.m=X.m/\X.m=runO os [docNode]/\(∃i,i<=60/\AllN (OkBod i) X.m)/\X.m.length<=300/\X.T.bs=2/\X.T.st=2:=by
 obtain⟨ao,cap,hv,_⟩:=id h;subst hv;have HR:=hi_ h;have hfw:os.all okOp=true/\os.length<=60:=by
  unfold few at hfew;rw[Bool.and_eq_true,decide_eq_true_eq]at hfew;exact hfew
 have HOk:=hi_ (List.all_eq_true.1 hfw.1);have hlen:=hfw.2;have HFt:=hi_ hf;have HTb:=hi_ ht;have QS:=hi_ (fun W=>start36 2 2 W);clear h hfw hfew hf ht
 go_enter Tryz.func11,Tryz.ntmps11
 go_wp2_with fail
 refine(QS.out _).mono ?_;rintro e w1 ⟨X1,rfl,hX,hm,hM,hb,hs⟩;have H1:=hi_ (⟨hX,hm,hM,hb,hs⟩:_/\_/\_/\_/\_);obtain⟨tb,htb⟩:∃tb,tb=X1.tb:=⟨_,rfl⟩;have HTbb:=hi_ htb;rw[<-htb];clear hX hm hM hb hs QS htb;go_wp2_with fail
 go_loopw [4] (fun v4 wr=>∃(i:Nat) (X:Tw),v4=.int .i64 (i:Nat)/\i<=os.length/\Hid (X.tb=tb)/\Hid (TwIs w wr X)/\Hid (X.M.m=X.m)/\Hid (runO (os.drop i) X.m=runO os [docNode])/\Hid (AllN (OkBod i) X.m)/\Hid (X.T.bs=2/\X.T.st=2)/\Hid (X.m.length<=300))
  (fun v4 _=>os.length-(Go.RowKit.intOf v4).toNat)
 case atStart=>
  exact⟨0,X1,rfl,Nat.zero_le _,hi_ HTbb.out.symm,hi_ H1.out.1,hi_ (by rw[H1.out.2.1,H1.out.2.2.1]),hi_ (by rw[H1.out.2.1];rfl),hi_ (by rw[H1.out.2.1];exact doc_ok),hi_ H1.out.2.2.2,hi_ (by rw[H1.out.2.1];exact(by decide:1<=300))⟩
 case round=>
  obtain⟨i,X,rfl,hi,HXt,HX,HXm,HRun,HAl,HBs,HLn⟩:=hrel
  rcases Nat.lt_or_ge i os.length with hlt|hge
  ·have hii:(i:Int)<(os.length:Int):=by omega
   have hi0:(0:Int)<=(i:Int):=by omega
   obtain⟨c0,c1,c2,htl⟩:=cells3 HX.out.blk;have hlp:=HX.out.pos_len;obtain⟨gh,caph,hhv,_,_,_⟩:=HX.out.toMid.cells hlp;rw[hhv]at c2;rw[HXt.out]at c0 c1 c2 htl
   by_cases hsm:X.m.length<120
   ·have hs2:decide ((X.m.length:Int)<120)=true:=decide_eq_true (by omega)
    have hsi:(X.m.length:Int)<120:=by omega
    have HRr:Hid (OpsAt wr (.slice ao os.length cap) os):=hi_ (HR.out.below HX.out.bel);obtain⟨g,off,e1,hgl,hcc⟩:=HRr.out.at (by omega);subst e1;have k0:=hcc i hlt 0 (by omega);have k1:=hcc i hlt 1 (by omega);have k2:=hcc i hlt 2 (by omega);have k3:=hcc i hlt 3 (by omega);have k4:=hcc i hlt 4 (by omega);have k5:=hcc i hlt 5 (by omega);have k6:=hcc i hlt 6 (by omega);have k7:=hcc i hlt 7 (by omega);clear hcc;have hmem:os[i]∈os:=List.getElem_mem hlt;obtain⟨hF,hst⟩:=fit_run HX.out HXm.out hsm (by omega) HAl.out (HOk.out _ hmem) (HFt.out _ hmem) HTb.out;have hdr:os.drop i=os[i] :: os.drop (i+1):=List.drop_eq_getElem_cons hlt;have HRun2:Hid (runO (os.drop (i+1)) (G.step none X.m os[i]).2.2=runO os [docNode]):=hi_ (by
     have h1:=HRun.out;rw[hdr,runO,if_pos hsm]at h1;exact h1)
    have ho40:=HOk.out _ hmem;have HAl2:Hid (AllN (OkBod (i+1)) (G.step (some 64) X.m os[i]).2.2):=hi_ (ok_step HAl.out (by
     unfold okOp at ho40;rw[Bool.and_eq_true,decide_eq_true_eq,decide_eq_true_eq]at ho40;have:=U.rep_le os[i].t
     omega))
    have QD:=hi_ (do_ w wr X os[i] i HX.out hF);rw[HXt.out]at QD;have HSt:=hi_ hst;have HL2:Hid ((G.step (some 64) X.m os[i]).2.2.length<=300):=hi_ (by have:=step_few HX.out.tree.fits.wf (some 64) os[i];omega);generalize os[i]=o at *;have j0:wr.cell? ⟨g,off+i*8,none⟩=some (.int .u8 (o.kind:Nat)):=k0;have j1:wr.cell? ⟨g,off+i*8+1,none⟩=some (.int .u8 (o.a:Nat)):=k1;have j2:wr.cell? ⟨g,off+i*8+2,none⟩=some (.int .u8 (o.b:Nat)):=k2;have j3:wr.cell? ⟨g,off+i*8+3,none⟩=some (.int .u8 (o.c:Nat)):=k3;have j4:wr.cell? ⟨g,off+i*8+4,none⟩=some (.string ⟨o.s.toArray⟩):=k4;have j5:wr.cell? ⟨g,off+i*8+5,none⟩=some (.string ⟨o.t.toArray⟩):=k5;have j6:wr.cell? ⟨g,off+i*8+6,none⟩=some (.int .i8 o.n):=k6
    have j7:wr.cell? ⟨g,off+i*8+7,none⟩=some (.int .i8 o.k):=k7;clear k0 k1 k2 k3 k4 k5 k6 k7 hF hst hdr ho40 hmem;unfold opV at QD;go_wp2_with fail
    refine QD.out.mono ?_;rintro e w5 ⟨v5,b5,X',rfl,hX',ht',hb',hs',hm',hM',_,_⟩;have HX':=hi_ hX';have HXt':Hid (X'.tb=tb):=hi_ (ht'.trans HXt.out);have HXm':Hid (X'.M.m=X'.m):=hi_ (by rw[hM',hm',HXm.out,HSt.out]);have HRun':Hid (runO (os.drop (i+1)) X'.m=runO os [docNode]):=hi_ (by rw[hm',HSt.out];exact HRun2.out);have HAl':Hid (AllN (OkBod (i+1)) X'.m):=hi_ (by rw[hm'];exact HAl2.out);have HBs':Hid (X'.T.bs=2/\X'.T.st=2):=hi_ ⟨hb'.trans HBs.out.1,hs'.trans HBs.out.2⟩;have HLn':Hid (X'.m.length<=300):=hi_ (by rw[hm'];exact HL2.out);clear hX' ht' hb' hs' hm' hM' QD HAl2 HRun2 HL2;go_wp2_with fail
    go_roundw
    case rel=>exact⟨i+1,X',by go_num,by omega,HXt',HX',HXm',HRun',HAl',HBs',HLn'⟩
    case measure=>simp[Go.RowKit.intOf];omega
   ·have hs2:decide ((X.m.length:Int)<120)=false:=decide_eq_false (by omega)
    have hsn:¬(X.m.length:Int)<120:=by omega
    have HEq:Hid (X.m=runO os [docNode]):=hi_ (by rw[<-HRun.out,runO_stop hsm]);go_wp2_with fail
    refine bodyPost_ret (v:=.pointer (some ⟨tb,0,none⟩)) (by simp[results,Tryz.results11,go_sem]) rfl ⟨X,by rw[HXt.out],HX.out,HXm.out,HEq.out,⟨i,by omega,HAl.out⟩,HLn.out,HBs.out.1,HBs.out.2⟩
  ·have hie:i=os.length:=by omega
   have HEq:Hid (X.m=runO os [docNode]):=hi_ (by rw[<-HRun.out,hie,List.drop_length];rfl);subst hie;have hnot:¬((os.length:Nat):Int)<((os.length:Nat):Int):=by omega
   go_wp2_with fail
   refine bodyPost_ret (v:=.pointer (some ⟨tb,0,none⟩)) (by simp[results,Tryz.results11,go_sem]) rfl ⟨X,by rw[HXt.out],HX.out,HXm.out,HEq.out,⟨os.length,hlen,HAl.out⟩,HLn.out,HBs.out.1,HBs.out.2⟩
end A
end
section
open Go.RowKit Go.Sort
namespace G
def spotN(m:Model)(p:Nat):Nat:=p % m.length
def spotI(m:Model)(p q:Nat):Nat:=if has m (spotN m p)=true then q % (G.sizeOf m (spotN m p)+1)else q
end G
namespace A
open H G R
theorem blk_two{g:Nat}{t:TypeId}{w:World}{a b:Value}(h:Blk g #[a,b] t w)(c d:Value):Blk g #[c,d] t ((w.setCell ⟨g,0,none⟩ c).setCell ⟨g,1,none⟩ d):=by
 have h9:=(h.set 0 c).set 1 d;simp only[List.setIfInBounds_toArray,List.set_cons_zero,List.set_cons_succ]at h9;exact h9
def pointR(i k:Nat):Value:=.agg #[.int .i64 (i:Nat),.int .i64 (k:Nat)]
theorem point_(w0 w:World)(X:Tw)(p q:Nat)(h:TwIs w0 w X)(hm:X.M.m=X.m)(hW:Whole X.m)(hfw:X.m.length<=2000)(hp:p<256)(hq:q<256) :
  Calls Tryz.prog 12 #[.pointer (some ⟨X.tb,0,none⟩),.agg #[.int .u8 (p:Nat),.int .u8 (q:Nat)]] w fun e w'=>e=.returned (.tuple #[pointR (spotN X.m p) (spotI X.m p q),pointV (hv1 X.T X.pos X.m (spotN X.m p)) (spotI X.m p q:Nat)])/\Below w.heap.size w w':=by
 have hl:=h.pos_len;have n1:spotN X.m p<X.m.length:=Nat.mod_lt _ hl;have ek2:Int.tmod (p:Int) (X.m.length:Int)=(spotN X.m p:Int):=(Int.ofNat_tmod _ _).symm;have HI:Hid (spotI X.m p q=if has X.m (spotN X.m p)=true then q % (G.sizeOf X.m (spotN X.m p)+1)else q):=hi_ rfl;have QS:=hi_ (fun W (hM:ModelMem W X.M)=>mSize X.M (spotN X.m p) W hM (by rw[<-X.M.m_len,hm];exact n1) (by rw[hm];have:=(hW (spotN X.m p)).1;omega) (by rw[hm];exact(hW (spotN X.m p)).2));have QH:=hi_ (fun W (hM:ModelMem W X.M)=>mHas X.M (spotN X.m p) W hM);rw[hm]at QS QH;have hsz:G.sizeOf X.m (spotN X.m p)<=100000:=size_short h.tree.fits.wf hW (by omega) _;generalize spotI X.m p q=k at *;generalize spotN X.m p=a at *;generalize G.sizeOf X.m a=sz at *
 have hb1:=((((Below.refl w.heap.size w).alloc (Nat.le_refl _) (.cells #[.int .u8 (p:Nat),.int .u8 (q:Nat)] 24))).alloc (by simp) (.cells #[.int .i64 0,.int .i64 0] 30)).alloc (by simp;omega) (.cells #[.int .i64 0,.int .i64 0] 31);have HX1:=hi_ (((Blk.new w #[.int .u8 (p:Nat),.int .u8 (q:Nat)] 24).alloc (.cells #[.int .i64 0,.int .i64 0] 30)).alloc (.cells #[.int .i64 0,.int .i64 0] 31));have HX2:=hi_ ((Blk.new (w.alloc (.cells #[.int .u8 (p:Nat),.int .u8 (q:Nat)] 24)) #[.int .i64 0,.int .i64 0] 30).alloc (.cells #[.int .i64 0,.int .i64 0] 31))
 have HX3:=hi_ (Blk.new ((w.alloc (.cells #[.int .u8 (p:Nat),.int .u8 (q:Nat)] 24)).alloc (.cells #[.int .i64 0,.int .i64 0] 30)) #[.int .i64 0,.int .i64 0] 31);simp only[World.size_alloc]at HX2 HX3;have H1:=hi_ (h.below hb1);have HB1:=hi_ hb1;obtain⟨g,cap,hv,_,hcap,_⟩:=h.toMid.cells hl;have HSx:Hid (∀W,Below w.heap.size w W->W.cell? ⟨X.tb,2,none⟩=some (.slice (some ⟨g,0,none⟩) X.m.length cap)/\W.cell? ⟨g,a,none⟩=some (.int .i64 (hv1 X.T X.pos X.m a))):=hi_ (fun W hb=>by
  have h2:=h.below hb;obtain⟨_,_,c2,_⟩:=cells3 h2.blk;rw[hv]at c2;exact⟨c2,(h2.toMid.get hv n1).1⟩)
 have hz1:=h.toMid.get hv n1;have hgl:=hz1.2.2;have wp1:IntKind.i64.wrap (p:Int)=(p:Int):=IntWalk.i64_in _ (by omega);have wq1:IntKind.i64.wrap (q:Int)=(q:Int):=IntWalk.i64_in _ (by omega);have wq2:IntKind.i64.wrap (a:Int)=(a:Int):=IntWalk.i64_in _ (by omega);have hn0:¬(X.m.length:Int)=0:=by omega
 have hn00:((X.m.length:Int)==0)=false:=beq_eq_false_iff_ne.2 hn0;have hai:(a:Int)<(X.m.length:Int):=by omega
 have ha0:(0:Int)<=(a:Int):=by omega
 have ws:IntKind.i64.wrap ((sz:Int)+1)=(sz:Int)+1:=IntWalk.i64_in _ (by omega);have es:Int.tmod (q:Int) ((sz:Int)+1)=((q % (sz+1):Nat):Int):=(Int.ofNat_tmod q (sz+1)).symm;have hs0:¬((sz:Int)+1)=0:=by omega
 have hs00:(((sz:Int)+1)==0)=false:=beq_eq_false_iff_ne.2 hs0;have hk2:q % (sz+1)<=q:=Nat.mod_le _ _;have wk:IntKind.i64.wrap ((q % (sz+1):Nat):Int)=((q % (sz+1):Nat):Int):=IntWalk.i64_in _ (by omega);generalize q % (sz+1)=k2 at *;generalize has X.m a=ha at *;clear h hb1 hm hW hk2
 go_enter Tryz.func12,Tryz.ntmps12
 go_upto_region 1 with fail
 generalize ((w.alloc (.cells #[.int .u8 (p:Nat),.int .u8 (q:Nat)] 24)).alloc (.cells #[.int .i64 0,.int .i64 0] 30)).alloc (.cells #[.int .i64 0,.int .i64 0] 31)=w1 at *;obtain⟨c0,c1,c2,hlt⟩:=cells3 H1.out.blk;rw[hv]at c2;obtain⟨b0,b1⟩:=cells2 HX1.out;have hbl:=HX1.out.lt;have D0:=lc_ c2 hlt;have D1:=lc_ b0 hbl;refine wp_region_later (by kernel_rfl) (by kernel_rfl) ?_;repeat (go_big_quiet_step (fail))
 refine wq_ (fun dq=>?_);have HD2:=hi_ dq.h;clear D0 D1 c0 c1 c2 b0 b1 hlt hbl;generalize dq.w=w2 at *;have HB2:=bt_ HB1 HD2.out;have H2:=hi_ (H1.out.below HD2.out);have HY1:=hi_ (HX1.out.below HD2.out);have HY2:=hi_ (HX2.out.below HD2.out);have HY3:=hi_ (HX3.out.below HD2.out);clear HX1 HX2 HX3 H1 HB1 HD2 dq;obtain⟨c0,c1,c2,hlt⟩:=cells3 H2.out.blk;rw[hv]at c2;obtain⟨b0,b1⟩:=cells2 HY1.out;have hbl:=HY1.out.lt;have Q:=hi_ (QH.out w2 H2.out.model);try rw[ek2]
 try rw[wq2]
 go_wp2_with fail
 refine Q.out.mono ?_;rintro e w2' ⟨rfl,rfl⟩
 cases ha with
 |false=>
  have HI2:Hid (k=q):=hi_ (HI.out.trans (if_neg (by decide)));have HQ2:=HY2;have HQ3:=HY3;go_upto_region 5 with fail
  have HSW:=hi_ (HSx.out w2 HB2.out);refine wp_region_flow (fun W'=>W'.cell? ⟨X.tb,2,none⟩=some (.slice (some ⟨g,0,none⟩) X.m.length cap)/\W'.cell? ⟨g,a,none⟩=some (.int .i64 (hv1 X.T X.pos X.m a))) 13 [(0,false),(1,false),(2,false),(3,false),(4,false),(5,false),(6,false),(7,false),(8,false),(9,false),(10,false),(11,false),(12,true)] (by kernel_rfl) (by kernel_rfl) (HSx.out _ (HB2.out.drew)) ?_;iterate 12 (
   refine flow_get _ ?_ rfl (fun _ _ _ h=>h) (by rfl) ?_ ?_
   rotate_left
   focus (
    intro W' hS';obtain⟨s0,s1⟩:=hS';go_simp
    first|done|with_reducible rfl)
   simp only[Act.put,List.setIfInBounds_toArray,List.set_cons_zero,List.set_cons_succ])
  change wpFlow _ _ _ _ _ _ _ (World.drew w2);obtain⟨wd,hwd⟩:∃wd,wd=World.drew w2:=⟨_,rfl⟩;have HBd:Hid (Below w.heap.size w wd):=hi_ (by rw[hwd];exact HB2.out.drew);have HYd2:Hid (Blk (w.heap.size+1) #[.int .i64 0,.int .i64 0] 30 wd):=hi_ (by rw[hwd];exact HQ2.out);have HYd3:Hid (Blk (w.heap.size+1+1) #[.int .i64 0,.int .i64 0] 31 wd):=hi_ (by rw[hwd];exact HQ3.out);rw[<-hwd];clear hwd;obtain⟨_,hfa⟩:=cells_of HYd2.out;obtain⟨_,hfb⟩:=cells_of HYd3.out;have fa0:wd.frozen? ⟨w.heap.size+1,0,none⟩=false:=hfa 0 (by show 0<2;omega);have fa1:wd.frozen? ⟨w.heap.size+1,1,none⟩=false:=hfa 1 (by show 1<2;omega);have fb0:wd.frozen? ⟨w.heap.size+1+1,0,none⟩=false:=hfb 0 (by show 0<2;omega)
  have fb1:wd.frozen? ⟨w.heap.size+1+1,1,none⟩=false:=hfb 1 (by show 1<2;omega);have hla:=HYd2.out.lt;have hlb:=HYd3.out.lt;clear hfa hfb;have HW1:=hi_ (((HBd.out).setCell (p:=⟨w.heap.size+1,0,none⟩) (by show w.heap.size<=w.heap.size+1;omega) (.int .i64 (a:Nat))).setCell (p:=⟨w.heap.size+1,1,none⟩) (by show w.heap.size<=w.heap.size+1;omega) (.int .i64 (q:Nat)));have HW2:=hi_ (((HW1.out).setCell (p:=⟨w.heap.size+1+1,0,none⟩) (by show w.heap.size<=w.heap.size+1+1;omega) (.int .i64 (hv1 X.T X.pos X.m a))).setCell (p:=⟨w.heap.size+1+1,1,none⟩) (by show w.heap.size<=w.heap.size+1+1;omega) (.int .i64 (q:Nat)))
  have HV1:=hi_ ((blk_two HYd2.out (.int .i64 (a:Nat)) (.int .i64 (q:Nat))).far (k:=w.heap.size+1+1) (by omega) 0 (.int .i64 (hv1 X.T X.pos X.m a)) |>.far (k:=w.heap.size+1+1) (by omega) 1 (.int .i64 (q:Nat)));have HV2:=hi_ (blk_two (((HYd3.out).far (k:=w.heap.size+1) (by omega) 0 (.int .i64 (a:Nat))).far (k:=w.heap.size+1) (by omega) 1 (.int .i64 (q:Nat))) (.int .i64 (hv1 X.T X.pos X.m a)) (.int .i64 (q:Nat)));refine flow_do _ rfl (fun K hK=>?_);go_simp
  refine hK _ _ (HSx.out _ HW1.out) ?_;clear hK K;show wpList _ _ _ _ _ _;simp only[List.drop_succ_cons,List.drop_zero];go_wp2_with fail
  generalize ((((wd.setCell ⟨w.heap.size+1,0,none⟩ (.int .i64 (a:Nat))).setCell ⟨w.heap.size+1,1,none⟩ (.int .i64 (q:Nat))).setCell ⟨w.heap.size+1+1,0,none⟩ (.int .i64 (hv1 X.T X.pos X.m a))).setCell ⟨w.heap.size+1+1,1,none⟩ (.int .i64 (q:Nat)))=WR at *;obtain⟨r0,r1⟩:=cells2 HV1.out;obtain⟨r2,r3⟩:=cells2 HV2.out
  (try simp only[Exit.inBlock,Exit.then])
  refine bodyPost_ret (v:=.tuple #[.agg #[.int .i64 (a:Nat),.int .i64 (q:Nat)],.agg #[.int .i64 (hv1 X.T X.pos X.m a),.int .i64 (q:Nat)]]) (by simp[results,Tryz.results12,go_sem,r0,r1,r2,r3]) rfl ⟨by rw[HI2.out];rfl,HW2.out⟩
 |true=>
  have HI2:Hid (k=k2):=hi_ (HI.out.trans (if_pos rfl));have QSz:=hi_ (QS.out w2 H2.out.model);go_wp2_with fail
  refine QSz.out.mono ?_;rintro e w3 ⟨rfl,hb3⟩;have HB3:=bt_ HB2 hb3;have HQ2:=hi_ (HY2.out.below hb3);have HQ3:=hi_ (HY3.out.below hb3);clear hb3 QSz;go_upto_region 5 with fail
  try rw[es]
  try rw[wk]
  have HSW:=hi_ (HSx.out w3 HB3.out);refine wp_region_flow (fun W'=>W'.cell? ⟨X.tb,2,none⟩=some (.slice (some ⟨g,0,none⟩) X.m.length cap)/\W'.cell? ⟨g,a,none⟩=some (.int .i64 (hv1 X.T X.pos X.m a))) 13 [(0,false),(1,false),(2,false),(3,false),(4,false),(5,false),(6,false),(7,false),(8,false),(9,false),(10,false),(11,false),(12,true)] (by kernel_rfl) (by kernel_rfl) (HSx.out _ (HB3.out.drew)) ?_;iterate 12 (
   refine flow_get _ ?_ rfl (fun _ _ _ h=>h) (by rfl) ?_ ?_
   rotate_left
   focus (
    intro W' hS';obtain⟨s0,s1⟩:=hS';go_simp
    first|done|with_reducible rfl)
   simp only[Act.put,List.setIfInBounds_toArray,List.set_cons_zero,List.set_cons_succ])
  change wpFlow _ _ _ _ _ _ _ (World.drew w3);obtain⟨wd,hwd⟩:∃wd,wd=World.drew w3:=⟨_,rfl⟩;have HBd:Hid (Below w.heap.size w wd):=hi_ (by rw[hwd];exact HB3.out.drew);have HYd2:Hid (Blk (w.heap.size+1) #[.int .i64 0,.int .i64 0] 30 wd):=hi_ (by rw[hwd];exact HQ2.out);have HYd3:Hid (Blk (w.heap.size+1+1) #[.int .i64 0,.int .i64 0] 31 wd):=hi_ (by rw[hwd];exact HQ3.out);rw[<-hwd];clear hwd;obtain⟨_,hfa⟩:=cells_of HYd2.out;obtain⟨_,hfb⟩:=cells_of HYd3.out;have fa0:wd.frozen? ⟨w.heap.size+1,0,none⟩=false:=hfa 0 (by show 0<2;omega);have fa1:wd.frozen? ⟨w.heap.size+1,1,none⟩=false:=hfa 1 (by show 1<2;omega);have fb0:wd.frozen? ⟨w.heap.size+1+1,0,none⟩=false:=hfb 0 (by show 0<2;omega)
  have fb1:wd.frozen? ⟨w.heap.size+1+1,1,none⟩=false:=hfb 1 (by show 1<2;omega);have hla:=HYd2.out.lt;have hlb:=HYd3.out.lt;clear hfa hfb;have HW1:=hi_ (((HBd.out).setCell (p:=⟨w.heap.size+1,0,none⟩) (by show w.heap.size<=w.heap.size+1;omega) (.int .i64 (a:Nat))).setCell (p:=⟨w.heap.size+1,1,none⟩) (by show w.heap.size<=w.heap.size+1;omega) (.int .i64 (k2:Nat)));have HW2:=hi_ (((HW1.out).setCell (p:=⟨w.heap.size+1+1,0,none⟩) (by show w.heap.size<=w.heap.size+1+1;omega) (.int .i64 (hv1 X.T X.pos X.m a))).setCell (p:=⟨w.heap.size+1+1,1,none⟩) (by show w.heap.size<=w.heap.size+1+1;omega) (.int .i64 (k2:Nat)))
  have HV1:=hi_ ((blk_two HYd2.out (.int .i64 (a:Nat)) (.int .i64 (k2:Nat))).far (k:=w.heap.size+1+1) (by omega) 0 (.int .i64 (hv1 X.T X.pos X.m a)) |>.far (k:=w.heap.size+1+1) (by omega) 1 (.int .i64 (k2:Nat)));have HV2:=hi_ (blk_two (((HYd3.out).far (k:=w.heap.size+1) (by omega) 0 (.int .i64 (a:Nat))).far (k:=w.heap.size+1) (by omega) 1 (.int .i64 (k2:Nat))) (.int .i64 (hv1 X.T X.pos X.m a)) (.int .i64 (k2:Nat)));refine flow_do _ rfl (fun K hK=>?_);go_simp
  refine hK _ _ (HSx.out _ HW1.out) ?_;clear hK K;show wpList _ _ _ _ _ _;simp only[List.drop_succ_cons,List.drop_zero];go_wp2_with fail
  generalize ((((wd.setCell ⟨w.heap.size+1,0,none⟩ (.int .i64 (a:Nat))).setCell ⟨w.heap.size+1,1,none⟩ (.int .i64 (k2:Nat))).setCell ⟨w.heap.size+1+1,0,none⟩ (.int .i64 (hv1 X.T X.pos X.m a))).setCell ⟨w.heap.size+1+1,1,none⟩ (.int .i64 (k2:Nat)))=WR at *;obtain⟨r0,r1⟩:=cells2 HV1.out;obtain⟨r2,r3⟩:=cells2 HV2.out
  (try simp only[Exit.inBlock,Exit.then])
  refine bodyPost_ret (v:=.tuple #[.agg #[.int .i64 (a:Nat),.int .i64 (k2:Nat)],.agg #[.int .i64 (hv1 X.T X.pos X.m a),.int .i64 (k2:Nat)]]) (by simp[results,Tryz.results12,go_sem,r0,r1,r2,r3]) rfl ⟨by rw[HI2.out];rfl,HW2.out⟩
end A
end
end Go.Proofs.YtinphfpdfodkkaaGreatDoor
