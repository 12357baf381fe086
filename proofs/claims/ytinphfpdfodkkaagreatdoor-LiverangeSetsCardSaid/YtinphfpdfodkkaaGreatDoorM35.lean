/- Texts of the proof. -/
import Derived.Test.YtinphfpdfodkkaaGreatDoorM33
set_option linter.unusedVariables false
set_option linter.unusedSimpArgs false
set_option maxHeartbeats 8000000
set_option maxRecDepth 100000
namespace Go.Proofs.YtinphfpdfodkkaaGreatDoor
section
open Go.RowKit Go.Sort
namespace A
open H G R
theorem endsStart(g o:Nat)(w:World):Calls Tryz.prog 46 #[.pointer (some ⟨g,o,none⟩)] w fun e w'=>e=.returned (.tuple #[.pointer (some ⟨g,o+1,none⟩),.pointer (some ⟨g,o+3,none⟩)])/\Below w.heap.size w w':=by
 have HB:=hi_ (Below.refl w.heap.size w)
 go_enter Tryz.func46,Tryz.ntmps46
 go_upto_region 1 with fail
 refine wp_region_later (by kernel_rfl) (by kernel_rfl) ?_;repeat (go_big_quiet_step (fail))
 refine wq_ (fun dq=>?_);have HD:=hi_ dq.h;generalize dq.w=w2 at *;go_wp2_with fail
 refine bodyPost_ret (v:=.tuple #[.pointer (some ⟨g,o+1,none⟩),.pointer (some ⟨g,o+3,none⟩)]) (by simp[results,Tryz.results46,go_sem]) rfl ⟨rfl,HD.out⟩
def putStart(r:Rg)(z k:Int):Rg:={ r with sn:=z,si:=k }
def movedStart(m:Model)(a b:Nat×Nat)(z k:Int)(r:Rg):Rg:=if (cmpRes m a b).2≠0\/(cmpRes m a b).1=1 then⟨r.id,z,k,z,k⟩else putStart r z k
theorem setStart_in(T:TMem)(m:Model)(pos:Nat->Nat)(S:SMem)(id:Int)(i:Nat)(a b:Nat×Nat)(w:World)(hT:TreeIs w T m pos)(hS:SetMem w S)(hm:Small m)(hfi:findR S.rs id=some i)(hi:i<S.rs.length)
  (ha:has m a.1=true) (ka:a.2<=G.sizeOf m a.1) (kA:a.2<=1000000) (hb:has m b.1=true) (kb:b.2<=G.sizeOf m b.1) (kB:b.2<=1000000) (hbz:S.rs[i].en=hd T pos b.1) (hbk:S.rs[i].ei=(b.2:Nat)) :
  Calls Tryz.prog 45 #[.pointer (some ⟨S.sb,0,none⟩),.pointer (some ⟨T.tb,0,none⟩),.int .i64 id,pointV (hd T pos a.1) (a.2:Nat),.func (.func 46) #[] #[],.int .i64 1] w fun e w'=>e=.returned (.int .i64 0)/\H.Frame S.foot w w' ∧
   SetMem w' { S with rs:=S.rs.modify i (movedStart m a b (hd T pos a.1) (a.2:Nat)) }:=by
 have hb1:=((Below.refl w.heap.size w).alloc (Nat.le_refl _) (.cells #[.int .i64 (hd T pos a.1),.int .i64 (a.2:Nat)] 31));have hx:=Blk.new w #[.int .i64 (hd T pos a.1),.int .i64 (a.2:Nat)] 31;have HB1:=hi_ hb1;have HX1:=hi_ hx;have HT1:=hi_ (hT.below hb1);have HS1:=hi_ (hS.below hb1);have HNx:Hid (¬S.foot w.heap.size):=hi_ (fun h=>Nat.lt_irrefl _ (hS.foot_lt h));have hp:PtIs T m pos (hd T pos a.1) (a.2:Nat) 0:=Or.inl ⟨a.1,ha,rfl,by rw[if_pos (okPt_of ka)]⟩;have QC:=hi_ (fun W (hW:TreeIs W T m pos)=>check_ T m pos _ _ _ W hW hm hp);have QL:=hi_ (fun W (hW:TreeIs W T m pos)=>lcompare T m pos a b W hW hm ha hb (okPt_of ka) (okPt_of kb) kA kB);obtain⟨ao,cap,hrv⟩:=RecRow.slice hS.rows;obtain⟨g,cap',e,_,hgl,_⟩:=own_some hS.rows (by omega);rw[hrv]at e;injection e with e1 e2 e3
 subst e1 e3;have hptr:=ptr_some hrv hfi;have QF:=hi_ (find_ S id _ HS1.out);rw[hptr]at QF;have QE:=hi_ (fun W=>endsStart g (i*5) W);have HRv:=hi_ hrv;have HOb:Hid (S.rv.ownBlock=some g):=hi_ (by rw[hrv];rfl);have HBz:=hi_ hbz;have HBk:=hi_ hbk;have HMa:Hid (((cmpRes m a b).2≠0\/(cmpRes m a b).1=1)->movedStart m a b (hd T pos a.1) (a.2:Nat)=fun r=>⟨r.id,hd T pos a.1,(a.2:Nat),hd T pos a.1,(a.2:Nat)⟩):=hi_ (fun h=>funext fun r=>if_pos h);have HMb:Hid ((¬((cmpRes m a b).2≠0\/(cmpRes m a b).1=1))->movedStart m a b (hd T pos a.1) (a.2:Nat)=fun r=>putStart r (hd T pos a.1) (a.2:Nat)):=hi_ (fun h=>funext fun r=>if_neg h);generalize movedStart m a b (hd T pos a.1) (a.2:Nat)=MV at *;generalize cmpRes m a b=res at *;generalize hd T pos a.1=za at *;generalize ((a.2:Nat):Int)=ak at *
 generalize hd T pos b.1=zb at *;generalize ((b.2:Nat):Int)=bk at *;obtain⟨rc,re⟩:=res;dsimp only at QL HMa HMb;unfold pointV at *;clear hT hS hm hp hfi ha ka kA hb kb kB hbz hbk hrv hx hb1 hptr
 go_enter Tryz.func45,Tryz.ntmps45
 go_wp2_with fail
 generalize w.alloc (.cells #[.int .i64 za,.int .i64 ak] 31)=w1 at *;refine QF.out.mono ?_;rintro e w1' ⟨rfl,rfl⟩;obtain⟨b0,b1⟩:=cells2 HX1.out;go_wp2_with fail
 refine(QC.out _ HT1.out).mono ?_;rintro e w2 ⟨rfl,hb2⟩;have HB2:=bt_ HB1 hb2;have HX2:=hi_ (HX1.out.below hb2);have HT2:=hi_ (HT1.out.below hb2);have HS2:=hi_ (HS1.out.below hb2);clear hb2 QF b0 b1 HX1 HT1 HS1;go_wp2_with fail
 refine(QE.out _).mono ?_;rintro e w3 ⟨rfl,hb3⟩;have HB3:=bt_ HB2 hb3;have HX3:=hi_ (HX2.out.below hb3);have HT3:=hi_ (HT2.out.below hb3);have HS3:=hi_ (HS2.out.below hb3);clear hb3 QE HX2 HT2 HS2;obtain⟨b0,b1⟩:=cells2 HX3.out;have hro:RecRow rgcells S.B 54 5 w3 (.slice (some ⟨g,0,none⟩) S.rs.length cap) S.rs:=by have:=HS3.out.rows;rwa [HRv.out]at this
 have hg3:=(ownsRow_open hro).1;have f1:=(RecRow.cell rgcells_len hro hi (k:=1) (by omega)).2;have f2:w3.frozen? ⟨g,i*5+1+1,none⟩=false:=(RecRow.cell rgcells_len hro hi (k:=2) (by omega)).2;have c1:w3.cell? ⟨g,i*5+1,none⟩=some (.int .i64 S.rs[i].sn):=(RecRow.cell rgcells_len hro hi (k:=1) (by omega)).1;have c2:w3.cell? ⟨g,i*5+1+1,none⟩=some (.int .i64 S.rs[i].si):=(RecRow.cell rgcells_len hro hi (k:=2) (by omega)).1;clear hro;go_upto_region 9 with fail
 have HS4:Hid (SetMem ((w3.setCell ⟨g,i*5+1,none⟩ (.int .i64 za)).setCell ⟨g,i*5+1+1,none⟩ (.int .i64 ak)) { S with rs:=S.rs.modify i (fun r=>putStart r za ak) }):=hi_ (by
  have h1:=HS3.out.put HRv.out hi (k:=1) (by omega) (.int .i64 za) (fun r=>{ r with sn:=za }) rfl;have h2:=h1.put (by show S.rv=.slice _ (S.rs.modify i _).length cap;rw[List.length_modify];exact HRv.out) (by show i<(S.rs.modify i _).length;rw[List.length_modify];exact hi) (k:=2) (by omega) (.int .i64 ak) (fun r=>{ r with si:=ak }) rfl;have e:(S.rs.modify i (fun r=>{ r with sn:=za })).modify i (fun r=>{ r with si:=ak })=S.rs.modify i (fun r=>putStart r za ak):=by
   rw[List.modify_modify_eq];rfl
  rw[show({ S with rs:=S.rs.modify i (fun r=>putStart r za ak) }:SMem)={ S with rs:=(S.rs.modify i (fun r=>{ r with sn:=za })).modify i (fun r=>{ r with si:=ak }) } by rw[e]];exact h2)
 have hF34:=Frame.set (S:=S.foot) (Frame.set (S:=S.foot) (H.Frame.refl S.foot w3) (g:=g) (Or.inl (Or.inr (Or.inl HOb.out))) (i*5+1) (.int .i64 za)) (g:=g) (Or.inl (Or.inr (Or.inl HOb.out))) (i*5+1+1) (.int .i64 ak);have HX4:=hi_ (HX3.out.frame hF34 HNx.out);have HT4:=hi_ (HT3.out.frame HS3.out hF34);have HF4:Hid (H.Frame S.foot w _):=hi_ ((Frame.of HB3.out).trans hF34 (fun b hb=>Or.inl hb));clear hF34 b0 b1 hg3 f1 f2 c1 c2;generalize (w3.setCell ⟨g,i*5+1,none⟩ (.int .i64 za)).setCell ⟨g,i*5+1+1,none⟩ (.int .i64 ak)=w4 at *;have hi4:i<(S.rs.modify i (fun r=>putStart r za ak)).length:=by rw[List.length_modify];exact hi
 have hat:(S.rs.modify i (fun r=>putStart r za ak))[i]=putStart S.rs[i] za ak:=List.getElem_modify_eq ..;have HAt:=hi_ hat;have hro:RecRow rgcells S.B 54 5 w4 (.slice (some ⟨g,0,none⟩) (S.rs.modify i (fun r=>putStart r za ak)).length cap) (S.rs.modify i (fun r=>putStart r za ak)):=by have h1:RecRow rgcells S.B 54 5 w4 S.rv _:=HS4.out.rows;rw[HRv.out]at h1;rw[List.length_modify];exact h1
 have c3:w4.cell? ⟨g,i*5+3,none⟩=some (.int .i64 zb):=by rw[(RecRow.cell rgcells_len hro hi4 (k:=3) (by omega)).1,hat];exact congrArg (fun z=>some (Value.int .i64 z)) HBz.out
 have c4:w4.cell? ⟨g,i*5+3+1,none⟩=some (.int .i64 bk):=by rw[show i*5+3+1=i*5+4 from rfl,(RecRow.cell rgcells_len hro hi4 (k:=4) (by omega)).1,hat];exact congrArg (fun z=>some (Value.int .i64 z)) HBk.out
 have hg4:=(ownsRow_open hro).1;obtain⟨b0,b1⟩:=cells2 HX4.out;have hbl:=HX4.out.lt;have D0:=lc_ b0 hbl;have D1:=lc_ b1 hbl;have D2:=lc_ c3 hg4;have D3:=lc_ c4 hg4;clear hat hro;refine wp_region_later (by kernel_rfl) (by kernel_rfl) ?_;repeat (go_big_quiet_step ((go_at_call 13;exact Calls.later (QL.out _ (HT4.out.below (Later.h _))))))
 refine wq_ (fun dq=>?_);have HX5:=hi_ (HX4.out.below dq.h);have HS5:=hi_ (HS4.out.below dq.h);have HF5:=hi_ (HF4.out.below_ dq.h);clear D0 D1 D2 D3 b0 b1 c3 c4 hbl hg4 HX4 HS4 HT4 HF4;generalize dq.w=w5 at *;clear dq;have hi5:i<(S.rs.modify i (fun r=>putStart r za ak)).length:=hi4;have HRo5:Hid (RecRow rgcells S.B 54 5 w5 (.slice (some ⟨g,0,none⟩) (S.rs.modify i (fun r=>putStart r za ak)).length cap) (S.rs.modify i (fun r=>putStart r za ak))):=hi_ (by have h1:RecRow rgcells S.B 54 5 w5 S.rv _:=HS5.out.rows;rw[HRv.out]at h1;rw[List.length_modify];exact h1);obtain⟨b0,b1⟩:=cells2 HX5.out
 by_cases hre:re=0
 ·have e1:(re==0)=true:=by rw[hre];rfl
  have e2:(re != 0)=false:=by rw[hre];rfl
  by_cases hrc:rc=1
  ·have e3:(rc==1)=true:=by rw[hrc];rfl
   have HMa:=hi_ (HMa.out (Or.inr hrc));have c3:w5.cell? ⟨g,i*5+3,none⟩=some (.int .i64 zb):=by rw[(RecRow.cell rgcells_len HRo5.out hi5 (k:=3) (by omega)).1,HAt.out];exact congrArg (fun z=>some (Value.int .i64 z)) HBz.out
   have c4:w5.cell? ⟨g,i*5+3+1,none⟩=some (.int .i64 bk):=by rw[show i*5+3+1=i*5+4 from rfl,(RecRow.cell rgcells_len HRo5.out hi5 (k:=4) (by omega)).1,HAt.out];exact congrArg (fun z=>some (Value.int .i64 z)) HBk.out
   have f3:w5.frozen? ⟨g,i*5+3,none⟩=false:=(RecRow.cell rgcells_len HRo5.out hi5 (k:=3) (by omega)).2;have f4:w5.frozen? ⟨g,i*5+3+1,none⟩=false:=(RecRow.cell rgcells_len HRo5.out hi5 (k:=4) (by omega)).2;have hg5:=(ownsRow_open HRo5.out).1;have HS6:Hid (SetMem ((w5.setCell ⟨g,i*5+3,none⟩ (.int .i64 za)).setCell ⟨g,i*5+3+1,none⟩ (.int .i64 ak)) { S with rs:=S.rs.modify i MV }):=hi_ (by
    have h1:=HS5.out.put (by show S.rv=.slice _ (S.rs.modify i _).length cap;rw[List.length_modify];exact HRv.out) hi5 (k:=3) (by omega) (.int .i64 za) (fun r=>{ r with en:=za }) rfl;have h2:=h1.put (by show S.rv=.slice _ ((S.rs.modify i _).modify i _).length cap;rw[List.length_modify,List.length_modify];exact HRv.out) (by show i<((S.rs.modify i _).modify i _).length;rw[List.length_modify];exact hi5) (k:=4) (by omega) (.int .i64 ak) (fun r=>{ r with ei:=ak }) rfl;have e:((S.rs.modify i (fun r=>putStart r za ak)).modify i (fun r=>{ r with en:=za })).modify i (fun r=>{ r with ei:=ak })=S.rs.modify i MV:=by
     rw[List.modify_modify_eq,List.modify_modify_eq,HMa.out];rfl
    rw[show({ S with rs:=S.rs.modify i MV }:SMem)={ S with rs:=((S.rs.modify i (fun r=>putStart r za ak)).modify i (fun r=>{ r with en:=za })).modify i (fun r=>{ r with ei:=ak }) } by rw[e]];exact h2)
   have HF6:=hi_ (Frame.set (S:=S.foot) (Frame.set (S:=S.foot) HF5.out (g:=g) (Or.inl (Or.inr (Or.inl HOb.out))) (i*5+3) (.int .i64 za)) (g:=g) (Or.inl (Or.inr (Or.inl HOb.out))) (i*5+3+1) (.int .i64 ak));go_wp2_with fail
   exact bodyPost_ret (v:=.int .i64 0) (by simp[results,Tryz.results45,go_sem]) rfl ⟨rfl,HF6.out,HS6.out⟩
  ·have e3:(rc==1)=false:=beq_eq_false_iff_ne.2 hrc
   have HMc:=hi_ (HMb.out (fun h=>h.elim (fun h=>h hre) hrc));have HS6:Hid (SetMem w5 { S with rs:=S.rs.modify i MV }):=hi_ (by rw[HMc.out];exact HS5.out);clear hre;go_wp2_with fail
   exact bodyPost_ret (v:=.int .i64 0) (by simp[results,Tryz.results45,go_sem]) rfl ⟨rfl,HF5.out,HS6.out⟩
 ·have e1:(re==0)=false:=beq_eq_false_iff_ne.2 hre
  have e2:(re != 0)=true:=bne_iff_ne.2 hre;have HMa:=hi_ (HMa.out (Or.inl hre));have c3:w5.cell? ⟨g,i*5+3,none⟩=some (.int .i64 zb):=by rw[(RecRow.cell rgcells_len HRo5.out hi5 (k:=3) (by omega)).1,HAt.out];exact congrArg (fun z=>some (Value.int .i64 z)) HBz.out
  have c4:w5.cell? ⟨g,i*5+3+1,none⟩=some (.int .i64 bk):=by rw[show i*5+3+1=i*5+4 from rfl,(RecRow.cell rgcells_len HRo5.out hi5 (k:=4) (by omega)).1,HAt.out];exact congrArg (fun z=>some (Value.int .i64 z)) HBk.out
  have f3:w5.frozen? ⟨g,i*5+3,none⟩=false:=(RecRow.cell rgcells_len HRo5.out hi5 (k:=3) (by omega)).2;have f4:w5.frozen? ⟨g,i*5+3+1,none⟩=false:=(RecRow.cell rgcells_len HRo5.out hi5 (k:=4) (by omega)).2;have hg5:=(ownsRow_open HRo5.out).1;have HS6:Hid (SetMem ((w5.setCell ⟨g,i*5+3,none⟩ (.int .i64 za)).setCell ⟨g,i*5+3+1,none⟩ (.int .i64 ak)) { S with rs:=S.rs.modify i MV }):=hi_ (by
   have h1:=HS5.out.put (by show S.rv=.slice _ (S.rs.modify i _).length cap;rw[List.length_modify];exact HRv.out) hi5 (k:=3) (by omega) (.int .i64 za) (fun r=>{ r with en:=za }) rfl;have h2:=h1.put (by show S.rv=.slice _ ((S.rs.modify i _).modify i _).length cap;rw[List.length_modify,List.length_modify];exact HRv.out) (by show i<((S.rs.modify i _).modify i _).length;rw[List.length_modify];exact hi5) (k:=4) (by omega) (.int .i64 ak) (fun r=>{ r with ei:=ak }) rfl;have e:((S.rs.modify i (fun r=>putStart r za ak)).modify i (fun r=>{ r with en:=za })).modify i (fun r=>{ r with ei:=ak })=S.rs.modify i MV:=by
    rw[List.modify_modify_eq,List.modify_modify_eq,HMa.out];rfl
   rw[show({ S with rs:=S.rs.modify i MV }:SMem)={ S with rs:=((S.rs.modify i (fun r=>putStart r za ak)).modify i (fun r=>{ r with en:=za })).modify i (fun r=>{ r with ei:=ak }) } by rw[e]];exact h2)
  have HF6:=hi_ (Frame.set (S:=S.foot) (Frame.set (S:=S.foot) HF5.out (g:=g) (Or.inl (Or.inr (Or.inl HOb.out))) (i*5+3) (.int .i64 za)) (g:=g) (Or.inl (Or.inr (Or.inl HOb.out))) (i*5+3+1) (.int .i64 ak));go_wp2_with fail
  exact bodyPost_ret (v:=.int .i64 0) (by simp[results,Tryz.results45,go_sem]) rfl ⟨rfl,HF6.out,HS6.out⟩
theorem endsEnd(g o:Nat)(w:World):Calls Tryz.prog 47 #[.pointer (some ⟨g,o,none⟩)] w fun e w'=>e=.returned (.tuple #[.pointer (some ⟨g,o+3,none⟩),.pointer (some ⟨g,o+1,none⟩)])/\Below w.heap.size w w':=by
 have HB:=hi_ (Below.refl w.heap.size w)
 go_enter Tryz.func47,Tryz.ntmps47
 go_upto_region 1 with fail
 refine wp_region_later (by kernel_rfl) (by kernel_rfl) ?_;repeat (go_big_quiet_step (fail))
 refine wq_ (fun dq=>?_);have HD:=hi_ dq.h;generalize dq.w=w2 at *;go_wp2_with fail
 refine bodyPost_ret (v:=.tuple #[.pointer (some ⟨g,o+3,none⟩),.pointer (some ⟨g,o+1,none⟩)]) (by simp[results,Tryz.results47,go_sem]) rfl ⟨rfl,HD.out⟩
def putEnd(r:Rg)(z k:Int):Rg:={ r with en:=z,ei:=k }
def movedEnd(m:Model)(a b:Nat×Nat)(z k:Int)(r:Rg):Rg:=if (cmpRes m a b).2≠0\/(cmpRes m a b).1=(-1) then⟨r.id,z,k,z,k⟩else putEnd r z k
theorem setEnd_in(T:TMem)(m:Model)(pos:Nat->Nat)(S:SMem)(id:Int)(i:Nat)(a b:Nat×Nat)(w:World)(hT:TreeIs w T m pos)(hS:SetMem w S)(hm:Small m)(hfi:findR S.rs id=some i)(hi:i<S.rs.length)
  (ha:has m a.1=true) (ka:a.2<=G.sizeOf m a.1) (kA:a.2<=1000000) (hb:has m b.1=true) (kb:b.2<=G.sizeOf m b.1) (kB:b.2<=1000000) (hbz:S.rs[i].sn=hd T pos b.1) (hbk:S.rs[i].si=(b.2:Nat)) :
  Calls Tryz.prog 45 #[.pointer (some ⟨S.sb,0,none⟩),.pointer (some ⟨T.tb,0,none⟩),.int .i64 id,pointV (hd T pos a.1) (a.2:Nat),.func (.func 47) #[] #[],.int .i64 (-1)] w fun e w'=>e=.returned (.int .i64 0)/\H.Frame S.foot w w' ∧
   SetMem w' { S with rs:=S.rs.modify i (movedEnd m a b (hd T pos a.1) (a.2:Nat)) }:=by
 have hb1:=((Below.refl w.heap.size w).alloc (Nat.le_refl _) (.cells #[.int .i64 (hd T pos a.1),.int .i64 (a.2:Nat)] 31));have hx:=Blk.new w #[.int .i64 (hd T pos a.1),.int .i64 (a.2:Nat)] 31;have HB1:=hi_ hb1;have HX1:=hi_ hx;have HT1:=hi_ (hT.below hb1);have HS1:=hi_ (hS.below hb1);have HNx:Hid (¬S.foot w.heap.size):=hi_ (fun h=>Nat.lt_irrefl _ (hS.foot_lt h));have hp:PtIs T m pos (hd T pos a.1) (a.2:Nat) 0:=Or.inl ⟨a.1,ha,rfl,by rw[if_pos (okPt_of ka)]⟩;have QC:=hi_ (fun W (hW:TreeIs W T m pos)=>check_ T m pos _ _ _ W hW hm hp);have QL:=hi_ (fun W (hW:TreeIs W T m pos)=>lcompare T m pos a b W hW hm ha hb (okPt_of ka) (okPt_of kb) kA kB);obtain⟨ao,cap,hrv⟩:=RecRow.slice hS.rows;obtain⟨g,cap',e,_,hgl,_⟩:=own_some hS.rows (by omega);rw[hrv]at e;injection e with e1 e2 e3
 subst e1 e3;have hptr:=ptr_some hrv hfi;have QF:=hi_ (find_ S id _ HS1.out);rw[hptr]at QF;have QE:=hi_ (fun W=>endsEnd g (i*5) W);have HRv:=hi_ hrv;have HOb:Hid (S.rv.ownBlock=some g):=hi_ (by rw[hrv];rfl);have HBz:=hi_ hbz;have HBk:=hi_ hbk;have HMa:Hid (((cmpRes m a b).2≠0\/(cmpRes m a b).1=(-1))->movedEnd m a b (hd T pos a.1) (a.2:Nat)=fun r=>⟨r.id,hd T pos a.1,(a.2:Nat),hd T pos a.1,(a.2:Nat)⟩):=hi_ (fun h=>funext fun r=>if_pos h);have HMb:Hid ((¬((cmpRes m a b).2≠0\/(cmpRes m a b).1=(-1)))->movedEnd m a b (hd T pos a.1) (a.2:Nat)=fun r=>putEnd r (hd T pos a.1) (a.2:Nat)):=hi_ (fun h=>funext fun r=>if_neg h);generalize movedEnd m a b (hd T pos a.1) (a.2:Nat)=MV at *;generalize cmpRes m a b=res at *;generalize hd T pos a.1=za at *;generalize ((a.2:Nat):Int)=ak at *
 generalize hd T pos b.1=zb at *;generalize ((b.2:Nat):Int)=bk at *;obtain⟨rc,re⟩:=res;dsimp only at QL HMa HMb;unfold pointV at *;clear hT hS hm hp hfi ha ka kA hb kb kB hbz hbk hrv hx hb1 hptr
 go_enter Tryz.func45,Tryz.ntmps45
 go_wp2_with fail
 generalize w.alloc (.cells #[.int .i64 za,.int .i64 ak] 31)=w1 at *;refine QF.out.mono ?_;rintro e w1' ⟨rfl,rfl⟩;obtain⟨b0,b1⟩:=cells2 HX1.out;go_wp2_with fail
 refine(QC.out _ HT1.out).mono ?_;rintro e w2 ⟨rfl,hb2⟩;have HB2:=bt_ HB1 hb2;have HX2:=hi_ (HX1.out.below hb2);have HT2:=hi_ (HT1.out.below hb2);have HS2:=hi_ (HS1.out.below hb2);clear hb2 QF b0 b1 HX1 HT1 HS1;go_wp2_with fail
 refine(QE.out _).mono ?_;rintro e w3 ⟨rfl,hb3⟩;have HB3:=bt_ HB2 hb3;have HX3:=hi_ (HX2.out.below hb3);have HT3:=hi_ (HT2.out.below hb3);have HS3:=hi_ (HS2.out.below hb3);clear hb3 QE HX2 HT2 HS2;obtain⟨b0,b1⟩:=cells2 HX3.out;have hro:RecRow rgcells S.B 54 5 w3 (.slice (some ⟨g,0,none⟩) S.rs.length cap) S.rs:=by have:=HS3.out.rows;rwa [HRv.out]at this
 have hg3:=(ownsRow_open hro).1;have f1:=(RecRow.cell rgcells_len hro hi (k:=3) (by omega)).2;have f2:w3.frozen? ⟨g,i*5+3+1,none⟩=false:=(RecRow.cell rgcells_len hro hi (k:=4) (by omega)).2;have c1:w3.cell? ⟨g,i*5+3,none⟩=some (.int .i64 S.rs[i].en):=(RecRow.cell rgcells_len hro hi (k:=3) (by omega)).1;have c2:w3.cell? ⟨g,i*5+3+1,none⟩=some (.int .i64 S.rs[i].ei):=(RecRow.cell rgcells_len hro hi (k:=4) (by omega)).1;clear hro;go_upto_region 9 with fail
 have HS4:Hid (SetMem ((w3.setCell ⟨g,i*5+3,none⟩ (.int .i64 za)).setCell ⟨g,i*5+3+1,none⟩ (.int .i64 ak)) { S with rs:=S.rs.modify i (fun r=>putEnd r za ak) }):=hi_ (by
  have h1:=HS3.out.put HRv.out hi (k:=3) (by omega) (.int .i64 za) (fun r=>{ r with en:=za }) rfl;have h2:=h1.put (by show S.rv=.slice _ (S.rs.modify i _).length cap;rw[List.length_modify];exact HRv.out) (by show i<(S.rs.modify i _).length;rw[List.length_modify];exact hi) (k:=4) (by omega) (.int .i64 ak) (fun r=>{ r with ei:=ak }) rfl;have e:(S.rs.modify i (fun r=>{ r with en:=za })).modify i (fun r=>{ r with ei:=ak })=S.rs.modify i (fun r=>putEnd r za ak):=by
   rw[List.modify_modify_eq];rfl
  rw[show({ S with rs:=S.rs.modify i (fun r=>putEnd r za ak) }:SMem)={ S with rs:=(S.rs.modify i (fun r=>{ r with en:=za })).modify i (fun r=>{ r with ei:=ak }) } by rw[e]];exact h2)
 have hF34:=Frame.set (S:=S.foot) (Frame.set (S:=S.foot) (H.Frame.refl S.foot w3) (g:=g) (Or.inl (Or.inr (Or.inl HOb.out))) (i*5+3) (.int .i64 za)) (g:=g) (Or.inl (Or.inr (Or.inl HOb.out))) (i*5+3+1) (.int .i64 ak);have HX4:=hi_ (HX3.out.frame hF34 HNx.out);have HT4:=hi_ (HT3.out.frame HS3.out hF34);have HF4:Hid (H.Frame S.foot w _):=hi_ ((Frame.of HB3.out).trans hF34 (fun b hb=>Or.inl hb));clear hF34 b0 b1 hg3 f1 f2 c1 c2;generalize (w3.setCell ⟨g,i*5+3,none⟩ (.int .i64 za)).setCell ⟨g,i*5+3+1,none⟩ (.int .i64 ak)=w4 at *;have hi4:i<(S.rs.modify i (fun r=>putEnd r za ak)).length:=by rw[List.length_modify];exact hi
 have hat:(S.rs.modify i (fun r=>putEnd r za ak))[i]=putEnd S.rs[i] za ak:=List.getElem_modify_eq ..;have HAt:=hi_ hat;have hro:RecRow rgcells S.B 54 5 w4 (.slice (some ⟨g,0,none⟩) (S.rs.modify i (fun r=>putEnd r za ak)).length cap) (S.rs.modify i (fun r=>putEnd r za ak)):=by have h1:RecRow rgcells S.B 54 5 w4 S.rv _:=HS4.out.rows;rw[HRv.out]at h1;rw[List.length_modify];exact h1
 have c3:w4.cell? ⟨g,i*5+1,none⟩=some (.int .i64 zb):=by rw[(RecRow.cell rgcells_len hro hi4 (k:=1) (by omega)).1,hat];exact congrArg (fun z=>some (Value.int .i64 z)) HBz.out
 have c4:w4.cell? ⟨g,i*5+1+1,none⟩=some (.int .i64 bk):=by rw[show i*5+1+1=i*5+2 from rfl,(RecRow.cell rgcells_len hro hi4 (k:=2) (by omega)).1,hat];exact congrArg (fun z=>some (Value.int .i64 z)) HBk.out
 have hg4:=(ownsRow_open hro).1;obtain⟨b0,b1⟩:=cells2 HX4.out;have hbl:=HX4.out.lt;have D0:=lc_ b0 hbl;have D1:=lc_ b1 hbl;have D2:=lc_ c3 hg4;have D3:=lc_ c4 hg4;clear hat hro;refine wp_region_later (by kernel_rfl) (by kernel_rfl) ?_;repeat (go_big_quiet_step ((go_at_call 13;exact Calls.later (QL.out _ (HT4.out.below (Later.h _))))))
 refine wq_ (fun dq=>?_);have HX5:=hi_ (HX4.out.below dq.h);have HS5:=hi_ (HS4.out.below dq.h);have HF5:=hi_ (HF4.out.below_ dq.h);clear D0 D1 D2 D3 b0 b1 c3 c4 hbl hg4 HX4 HS4 HT4 HF4;generalize dq.w=w5 at *;clear dq;have hi5:i<(S.rs.modify i (fun r=>putEnd r za ak)).length:=hi4;have HRo5:Hid (RecRow rgcells S.B 54 5 w5 (.slice (some ⟨g,0,none⟩) (S.rs.modify i (fun r=>putEnd r za ak)).length cap) (S.rs.modify i (fun r=>putEnd r za ak))):=hi_ (by have h1:RecRow rgcells S.B 54 5 w5 S.rv _:=HS5.out.rows;rw[HRv.out]at h1;rw[List.length_modify];exact h1);obtain⟨b0,b1⟩:=cells2 HX5.out
 by_cases hre:re=0
 ·have e1:(re==0)=true:=by rw[hre];rfl
  have e2:(re != 0)=false:=by rw[hre];rfl
  by_cases hrc:rc=(-1)
  ·have e3:(rc==(-1))=true:=by rw[hrc];rfl
   have HMa:=hi_ (HMa.out (Or.inr hrc));have c3:w5.cell? ⟨g,i*5+1,none⟩=some (.int .i64 zb):=by rw[(RecRow.cell rgcells_len HRo5.out hi5 (k:=1) (by omega)).1,HAt.out];exact congrArg (fun z=>some (Value.int .i64 z)) HBz.out
   have c4:w5.cell? ⟨g,i*5+1+1,none⟩=some (.int .i64 bk):=by rw[show i*5+1+1=i*5+2 from rfl,(RecRow.cell rgcells_len HRo5.out hi5 (k:=2) (by omega)).1,HAt.out];exact congrArg (fun z=>some (Value.int .i64 z)) HBk.out
   have f3:w5.frozen? ⟨g,i*5+1,none⟩=false:=(RecRow.cell rgcells_len HRo5.out hi5 (k:=1) (by omega)).2;have f4:w5.frozen? ⟨g,i*5+1+1,none⟩=false:=(RecRow.cell rgcells_len HRo5.out hi5 (k:=2) (by omega)).2;have hg5:=(ownsRow_open HRo5.out).1;have HS6:Hid (SetMem ((w5.setCell ⟨g,i*5+1,none⟩ (.int .i64 za)).setCell ⟨g,i*5+1+1,none⟩ (.int .i64 ak)) { S with rs:=S.rs.modify i MV }):=hi_ (by
    have h1:=HS5.out.put (by show S.rv=.slice _ (S.rs.modify i _).length cap;rw[List.length_modify];exact HRv.out) hi5 (k:=1) (by omega) (.int .i64 za) (fun r=>{ r with sn:=za }) rfl;have h2:=h1.put (by show S.rv=.slice _ ((S.rs.modify i _).modify i _).length cap;rw[List.length_modify,List.length_modify];exact HRv.out) (by show i<((S.rs.modify i _).modify i _).length;rw[List.length_modify];exact hi5) (k:=2) (by omega) (.int .i64 ak) (fun r=>{ r with si:=ak }) rfl;have e:((S.rs.modify i (fun r=>putEnd r za ak)).modify i (fun r=>{ r with sn:=za })).modify i (fun r=>{ r with si:=ak })=S.rs.modify i MV:=by
     rw[List.modify_modify_eq,List.modify_modify_eq,HMa.out];rfl
    rw[show({ S with rs:=S.rs.modify i MV }:SMem)={ S with rs:=((S.rs.modify i (fun r=>putEnd r za ak)).modify i (fun r=>{ r with sn:=za })).modify i (fun r=>{ r with si:=ak }) } by rw[e]];exact h2)
   have HF6:=hi_ (Frame.set (S:=S.foot) (Frame.set (S:=S.foot) HF5.out (g:=g) (Or.inl (Or.inr (Or.inl HOb.out))) (i*5+1) (.int .i64 za)) (g:=g) (Or.inl (Or.inr (Or.inl HOb.out))) (i*5+1+1) (.int .i64 ak));go_wp2_with fail
   exact bodyPost_ret (v:=.int .i64 0) (by simp[results,Tryz.results45,go_sem]) rfl ⟨rfl,HF6.out,HS6.out⟩
  ·have e3:(rc==(-1))=false:=beq_eq_false_iff_ne.2 hrc
   have HMc:=hi_ (HMb.out (fun h=>h.elim (fun h=>h hre) hrc));have HS6:Hid (SetMem w5 { S with rs:=S.rs.modify i MV }):=hi_ (by rw[HMc.out];exact HS5.out);clear hre;go_wp2_with fail
   exact bodyPost_ret (v:=.int .i64 0) (by simp[results,Tryz.results45,go_sem]) rfl ⟨rfl,HF5.out,HS6.out⟩
 ·have e1:(re==0)=false:=beq_eq_false_iff_ne.2 hre
  have e2:(re != 0)=true:=bne_iff_ne.2 hre;have HMa:=hi_ (HMa.out (Or.inl hre));have c3:w5.cell? ⟨g,i*5+1,none⟩=some (.int .i64 zb):=by rw[(RecRow.cell rgcells_len HRo5.out hi5 (k:=1) (by omega)).1,HAt.out];exact congrArg (fun z=>some (Value.int .i64 z)) HBz.out
  have c4:w5.cell? ⟨g,i*5+1+1,none⟩=some (.int .i64 bk):=by rw[show i*5+1+1=i*5+2 from rfl,(RecRow.cell rgcells_len HRo5.out hi5 (k:=2) (by omega)).1,HAt.out];exact congrArg (fun z=>some (Value.int .i64 z)) HBk.out
  have f3:w5.frozen? ⟨g,i*5+1,none⟩=false:=(RecRow.cell rgcells_len HRo5.out hi5 (k:=1) (by omega)).2;have f4:w5.frozen? ⟨g,i*5+1+1,none⟩=false:=(RecRow.cell rgcells_len HRo5.out hi5 (k:=2) (by omega)).2;have hg5:=(ownsRow_open HRo5.out).1;have HS6:Hid (SetMem ((w5.setCell ⟨g,i*5+1,none⟩ (.int .i64 za)).setCell ⟨g,i*5+1+1,none⟩ (.int .i64 ak)) { S with rs:=S.rs.modify i MV }):=hi_ (by
   have h1:=HS5.out.put (by show S.rv=.slice _ (S.rs.modify i _).length cap;rw[List.length_modify];exact HRv.out) hi5 (k:=1) (by omega) (.int .i64 za) (fun r=>{ r with sn:=za }) rfl;have h2:=h1.put (by show S.rv=.slice _ ((S.rs.modify i _).modify i _).length cap;rw[List.length_modify,List.length_modify];exact HRv.out) (by show i<((S.rs.modify i _).modify i _).length;rw[List.length_modify];exact hi5) (k:=2) (by omega) (.int .i64 ak) (fun r=>{ r with si:=ak }) rfl;have e:((S.rs.modify i (fun r=>putEnd r za ak)).modify i (fun r=>{ r with sn:=za })).modify i (fun r=>{ r with si:=ak })=S.rs.modify i MV:=by
    rw[List.modify_modify_eq,List.modify_modify_eq,HMa.out];rfl
   rw[show({ S with rs:=S.rs.modify i MV }:SMem)={ S with rs:=((S.rs.modify i (fun r=>putEnd r za ak)).modify i (fun r=>{ r with sn:=za })).modify i (fun r=>{ r with si:=ak }) } by rw[e]];exact h2)
  have HF6:=hi_ (Frame.set (S:=S.foot) (Frame.set (S:=S.foot) HF5.out (g:=g) (Or.inl (Or.inr (Or.inl HOb.out))) (i*5+1) (.int .i64 za)) (g:=g) (Or.inl (Or.inr (Or.inl HOb.out))) (i*5+1+1) (.int .i64 ak));go_wp2_with fail
  exact bodyPost_ret (v:=.int .i64 0) (by simp[results,Tryz.results45,go_sem]) rfl ⟨rfl,HF6.out,HS6.out⟩
theorem set_none(S:SMem)(id z k wr:Int)(tv fv:Value)(w:World)(hS:SetMem w S)(hfi:findR S.rs id=none) :
  Calls Tryz.prog 45 #[.pointer (some ⟨S.sb,0,none⟩),tv,.int .i64 id,pointV z k,fv,.int .i64 wr] w fun e w'=>e=.returned (.int .i64 6)/\Below w.heap.size w w':=by
 have hb1:=((Below.refl w.heap.size w).alloc (Nat.le_refl _) (.cells #[.int .i64 z,.int .i64 k] 31));have HB1:=hi_ hb1;have QF:=hi_ (find_ S id _ (hS.below hb1));rw[ptr_no hfi]at QF;unfold pointV;clear hS hfi hb1
 go_enter Tryz.func45,Tryz.ntmps45
 go_wp2_with fail
 refine QF.out.mono ?_;rintro e w1' ⟨rfl,rfl⟩;go_wp2_with fail
 go_ret
 exact⟨rfl,HB1.out⟩
theorem set_bad(T:TMem)(m:Model)(pos:Nat->Nat)(S:SMem)(id z k o wr:Int)(i:Nat)(fv:Value)(w:World)(hT:TreeIs w T m pos)(hS:SetMem w S)(hm:Small m)(hfi:findR S.rs id=some i)(hp:PtIs T m pos z k o)(ho:o≠0) :
  Calls Tryz.prog 45 #[.pointer (some ⟨S.sb,0,none⟩),.pointer (some ⟨T.tb,0,none⟩),.int .i64 id,pointV z k,fv,.int .i64 wr] w fun e w'=>e=.returned (.int .i64 o)/\Below w.heap.size w w':=by
 have hb1:=((Below.refl w.heap.size w).alloc (Nat.le_refl _) (.cells #[.int .i64 z,.int .i64 k] 31));obtain⟨b0,b1⟩:=cells2 (Blk.new w #[.int .i64 z,.int .i64 k] 31);have HB1:=hi_ hb1;have QF:=hi_ (find_ S id _ (hS.below hb1));obtain⟨hi,_⟩:=findR_lt hfi;obtain⟨g,cap,e,_,_,_⟩:=own_some hS.rows (by omega);rw[ptr_some e hfi]at QF;have Q:=hi_ (check_ T m pos z k o _ (hT.below hb1) hm hp);have ho2:(o==0)=false:=beq_eq_false_iff_ne.2 ho;unfold pointV at *;clear hT hS hm hfi hp hb1 e
 go_enter Tryz.func45,Tryz.ntmps45
 go_wp2_with fail
 refine QF.out.mono ?_;rintro e w1' ⟨rfl,rfl⟩;go_wp2_with fail
 refine Q.out.mono ?_;rintro e w2 ⟨rfl,hb2⟩;have HB2:=bt_ HB1 hb2;clear hb2 Q;go_wp2_with fail
 go_ret
 exact⟨rfl,HB2.out⟩
theorem setStart_none(S:SMem)(id z k:Int)(tv:Value)(w:World)(hS:SetMem w S)(hfi:findR S.rs id=none) :
  Calls Tryz.prog 18 #[.pointer (some ⟨S.sb,0,none⟩),tv,.int .i64 id,pointV z k] w fun e w'=>e=.returned (.int .i64 6)/\Below w.heap.size w w':=by
 have hb1:=((Below.refl w.heap.size w).alloc (Nat.le_refl _) (.cells #[.int .i64 z,.int .i64 k] 31));obtain⟨b0,b1⟩:=cells2 (Blk.new w #[.int .i64 z,.int .i64 k] 31);have HB1:=hi_ hb1;have Q:=hi_ (set_none S id z k 1 tv (.func (.func 46) #[] #[]) _ (hS.below hb1) hfi);unfold pointV at *;clear hS hfi hb1
 go_enter Tryz.func18,Tryz.ntmps18
 go_wp2_with fail
 refine Q.out.mono ?_;rintro e w2 ⟨rfl,hb2⟩;have HB2:=bt_ HB1 hb2;clear hb2 Q;go_wp2_with fail
 go_ret
 exact⟨rfl,HB2.out⟩
theorem setStart_bad(T:TMem)(m:Model)(pos:Nat->Nat)(S:SMem)(id z k o:Int)(i:Nat)(w:World)(hT:TreeIs w T m pos)(hS:SetMem w S)(hm:Small m)(hfi:findR S.rs id=some i)(hp:PtIs T m pos z k o)(ho:o≠0) :
  Calls Tryz.prog 18 #[.pointer (some ⟨S.sb,0,none⟩),.pointer (some ⟨T.tb,0,none⟩),.int .i64 id,pointV z k] w fun e w'=>e=.returned (.int .i64 o)/\Below w.heap.size w w':=by
 have hb1:=((Below.refl w.heap.size w).alloc (Nat.le_refl _) (.cells #[.int .i64 z,.int .i64 k] 31));obtain⟨b0,b1⟩:=cells2 (Blk.new w #[.int .i64 z,.int .i64 k] 31);have HB1:=hi_ hb1;have Q:=hi_ (set_bad T m pos S id z k o 1 i (.func (.func 46) #[] #[]) _ (hT.below hb1) (hS.below hb1) hm hfi hp ho);unfold pointV at *;clear hT hS hm hfi hp hb1 ho
 go_enter Tryz.func18,Tryz.ntmps18
 go_wp2_with fail
 refine Q.out.mono ?_;rintro e w2 ⟨rfl,hb2⟩;have HB2:=bt_ HB1 hb2;clear hb2 Q;go_wp2_with fail
 go_ret
 exact⟨rfl,HB2.out⟩
theorem setStart_ok(T:TMem)(m:Model)(pos:Nat->Nat)(S:SMem)(id:Int)(i:Nat)(a b:Nat×Nat)(w:World)(hT:TreeIs w T m pos)(hS:SetMem w S)(hm:Small m)(hfi:findR S.rs id=some i)(hi:i<S.rs.length)
  (ha:has m a.1=true) (ka:a.2<=G.sizeOf m a.1) (kA:a.2<=1000000) (hb:has m b.1=true) (kb:b.2<=G.sizeOf m b.1) (kB:b.2<=1000000) (hbz:S.rs[i].en=hd T pos b.1) (hbk:S.rs[i].ei=(b.2:Nat)) :
  Calls Tryz.prog 18 #[.pointer (some ⟨S.sb,0,none⟩),.pointer (some ⟨T.tb,0,none⟩),.int .i64 id,pointV (hd T pos a.1) (a.2:Nat)] w fun e w'=>e=.returned (.int .i64 0)/\H.Frame S.foot w w' ∧
   SetMem w' { S with rs:=S.rs.modify i (movedStart m a b (hd T pos a.1) (a.2:Nat)) }:=by
 have hb1:=((Below.refl w.heap.size w).alloc (Nat.le_refl _) (.cells #[.int .i64 (hd T pos a.1),.int .i64 (a.2:Nat)] 31));obtain⟨b0,b1⟩:=cells2 (Blk.new w #[.int .i64 (hd T pos a.1),.int .i64 (a.2:Nat)] 31);have HB1:=hi_ hb1;have Q:=hi_ (setStart_in T m pos S id i a b _ (hT.below hb1) (hS.below hb1) hm hfi hi ha ka kA hb kb kB hbz hbk);generalize movedStart m a b (hd T pos a.1) (a.2:Nat)=MV at *;generalize hd T pos a.1=za at *;generalize ((a.2:Nat):Int)=ak at *;unfold pointV at *;clear hT hS hm hfi hi ha ka kA hb kb kB hbz hbk hb1
 go_enter Tryz.func18,Tryz.ntmps18
 go_wp2_with fail
 refine Q.out.mono ?_;rintro e w2 ⟨rfl,hf2,hs2⟩;have HF2:=hi_ ((Frame.of HB1.out).trans hf2 (fun b hb=>Or.inl hb));have HS2:=hi_ hs2;clear hf2 hs2 Q;go_wp2_with fail
 refine bodyPost_ret (v:=.int .i64 0) (by simp[results,Tryz.results18,go_sem]) rfl ⟨rfl,HF2.out,HS2.out⟩
theorem setEnd_bad(T:TMem)(m:Model)(pos:Nat->Nat)(S:SMem)(id z k o:Int)(i:Nat)(w:World)(hT:TreeIs w T m pos)(hS:SetMem w S)(hm:Small m)(hfi:findR S.rs id=some i)(hp:PtIs T m pos z k o)(ho:o≠0) :
  Calls Tryz.prog 19 #[.pointer (some ⟨S.sb,0,none⟩),.pointer (some ⟨T.tb,0,none⟩),.int .i64 id,pointV z k] w fun e w'=>e=.returned (.int .i64 o)/\Below w.heap.size w w':=by
 have hb1:=((Below.refl w.heap.size w).alloc (Nat.le_refl _) (.cells #[.int .i64 z,.int .i64 k] 31));obtain⟨b0,b1⟩:=cells2 (Blk.new w #[.int .i64 z,.int .i64 k] 31);have HB1:=hi_ hb1;have Q:=hi_ (set_bad T m pos S id z k o (-1) i (.func (.func 47) #[] #[]) _ (hT.below hb1) (hS.below hb1) hm hfi hp ho);unfold pointV at *;clear hT hS hm hfi hp hb1 ho
 go_enter Tryz.func19,Tryz.ntmps19
 go_wp2_with fail
 refine Q.out.mono ?_;rintro e w2 ⟨rfl,hb2⟩;have HB2:=bt_ HB1 hb2;clear hb2 Q;go_wp2_with fail
 go_ret
 exact⟨rfl,HB2.out⟩
theorem setEnd_ok(T:TMem)(m:Model)(pos:Nat->Nat)(S:SMem)(id:Int)(i:Nat)(a b:Nat×Nat)(w:World)(hT:TreeIs w T m pos)(hS:SetMem w S)(hm:Small m)(hfi:findR S.rs id=some i)(hi:i<S.rs.length)
  (ha:has m a.1=true) (ka:a.2<=G.sizeOf m a.1) (kA:a.2<=1000000) (hb:has m b.1=true) (kb:b.2<=G.sizeOf m b.1) (kB:b.2<=1000000) (hbz:S.rs[i].sn=hd T pos b.1) (hbk:S.rs[i].si=(b.2:Nat)) :
  Calls Tryz.prog 19 #[.pointer (some ⟨S.sb,0,none⟩),.pointer (some ⟨T.tb,0,none⟩),.int .i64 id,pointV (hd T pos a.1) (a.2:Nat)] w fun e w'=>e=.returned (.int .i64 0)/\H.Frame S.foot w w' ∧
   SetMem w' { S with rs:=S.rs.modify i (movedEnd m a b (hd T pos a.1) (a.2:Nat)) }:=by
 have hb1:=((Below.refl w.heap.size w).alloc (Nat.le_refl _) (.cells #[.int .i64 (hd T pos a.1),.int .i64 (a.2:Nat)] 31));obtain⟨b0,b1⟩:=cells2 (Blk.new w #[.int .i64 (hd T pos a.1),.int .i64 (a.2:Nat)] 31);have HB1:=hi_ hb1;have Q:=hi_ (setEnd_in T m pos S id i a b _ (hT.below hb1) (hS.below hb1) hm hfi hi ha ka kA hb kb kB hbz hbk);generalize movedEnd m a b (hd T pos a.1) (a.2:Nat)=MV at *;generalize hd T pos a.1=za at *;generalize ((a.2:Nat):Int)=ak at *;unfold pointV at *;clear hT hS hm hfi hi ha ka kA hb kb kB hbz hbk hb1
 go_enter Tryz.func19,Tryz.ntmps19
 go_wp2_with fail
 refine Q.out.mono ?_;rintro e w2 ⟨rfl,hf2,hs2⟩;have HF2:=hi_ ((Frame.of HB1.out).trans hf2 (fun b hb=>Or.inl hb));have HS2:=hi_ hs2;clear hf2 hs2 Q;go_wp2_with fail
 refine bodyPost_ret (v:=.int .i64 0) (by simp[results,Tryz.results19,go_sem]) rfl ⟨rfl,HF2.out,HS2.out⟩
def rgV(r:Rg):Value:=.agg #[.int .i64 r.id,.int .i64 r.sn,.int .i64 r.si,.int .i64 r.en,.int .i64 r.ei]
theorem blk_five{g:Nat}{t:TypeId}{w:World}{a b c d e:Value}(h:Blk g #[a,b,c,d,e] t w)(a' b' c' d' e':Value):Blk g #[a',b',c',d',e'] t (((((w.setCell ⟨g,0,none⟩ a').setCell ⟨g,1,none⟩ b').setCell ⟨g,2,none⟩ c').setCell ⟨g,3,none⟩ d').setCell ⟨g,4,none⟩ e'):=by
 have h9:=((((h.set 0 a').set 1 b').set 2 c').set 3 d').set 4 e';simp only[List.setIfInBounds_toArray,List.set_cons_zero,List.set_cons_succ]at h9;exact h9
theorem range_(S:SMem)(id:Int)(i:Nat)(w:World)(hS:SetMem w S)(hfi:findR S.rs id=some i)(hi:i<S.rs.length) :
  Calls Tryz.prog 20 #[.pointer (some ⟨S.sb,0,none⟩),.int .i64 id] w fun e w'=>e=.returned (.tuple #[rgV S.rs[i],.int .i64 0])/\Below w.heap.size w w':=by
 have hb1:=((Below.refl w.heap.size w).alloc (Nat.le_refl _) (.cells #[.int .i64 0,.int .i64 0,.int .i64 0,.int .i64 0,.int .i64 0] 54));have HX:=hi_ (Blk.new w #[.int .i64 0,.int .i64 0,.int .i64 0,.int .i64 0,.int .i64 0] 54);have hS1:=hS.below hb1;have HB1:=hi_ hb1;have QF:=hi_ (find_ S id _ hS1);obtain⟨g,cap,e,_,hgl,_⟩:=own_some hS.rows (by omega);rw[ptr_some e hfi]at QF;have hro:RecRow rgcells S.B 54 5 (w.alloc (.cells #[.int .i64 0,.int .i64 0,.int .i64 0,.int .i64 0,.int .i64 0] 54)) (.slice (some ⟨g,0,none⟩) S.rs.length cap) S.rs:=by have:=hS1.rows;rwa [e]at this
 have k0:=(RecRow.cell rgcells_len hro hi (k:=0) (by omega)).1;have k1:=(RecRow.cell rgcells_len hro hi (k:=1) (by omega)).1;have k2:=(RecRow.cell rgcells_len hro hi (k:=2) (by omega)).1;have k3:=(RecRow.cell rgcells_len hro hi (k:=3) (by omega)).1;have k4:=(RecRow.cell rgcells_len hro hi (k:=4) (by omega)).1;have hg1:=(ownsRow_open hro).1;generalize S.rs[i]=r at *;obtain⟨a0,a1,a2,a3,a4⟩:=r;clear hro hS hS1 hfi hi hb1 e hgl;unfold rgV
 go_enter Tryz.func20,Tryz.ntmps20
 go_upto_region 1 with fail
 generalize w.alloc (.cells #[.int .i64 0,.int .i64 0,.int .i64 0,.int .i64 0,.int .i64 0] 54)=w1 at *;have j0:w1.cell? ⟨g,i*5,none⟩=some (.int .i64 a0):=k0;have j1:w1.cell? ⟨g,i*5+1,none⟩=some (.int .i64 a1):=k1;have j2:w1.cell? ⟨g,i*5+2,none⟩=some (.int .i64 a2):=k2;have j3:w1.cell? ⟨g,i*5+3,none⟩=some (.int .i64 a3):=k3;have j4:w1.cell? ⟨g,i*5+4,none⟩=some (.int .i64 a4):=k4;obtain⟨⟨b0,b1,b2,b3,b4⟩,f0,f1,f2,f3,f4⟩:=cells5 HX.out;have hbl:=HX.out.lt;clear k0 k1 k2 k3 k4;go_wp2_with fail
 refine QF.out.mono ?_;rintro e w1' ⟨rfl,rfl⟩;go_wp2_with fail
 have HV:=hi_ (blk_five HX.out (.int .i64 a0) (.int .i64 a1) (.int .i64 a2) (.int .i64 a3) (.int .i64 a4));have HB2:=hi_ (((((HB1.out.setCell (p:=⟨w.heap.size,0,none⟩) (Nat.le_refl _) (.int .i64 a0)).setCell (p:=⟨w.heap.size,1,none⟩) (Nat.le_refl _) (.int .i64 a1)).setCell (p:=⟨w.heap.size,2,none⟩) (Nat.le_refl _) (.int .i64 a2)).setCell (p:=⟨w.heap.size,3,none⟩) (Nat.le_refl _) (.int .i64 a3)).setCell (p:=⟨w.heap.size,4,none⟩) (Nat.le_refl _) (.int .i64 a4));generalize (((((w1.setCell ⟨w.heap.size,0,none⟩ (.int .i64 a0)).setCell ⟨w.heap.size,1,none⟩ (.int .i64 a1)).setCell ⟨w.heap.size,2,none⟩ (.int .i64 a2)).setCell ⟨w.heap.size,3,none⟩ (.int .i64 a3)).setCell ⟨w.heap.size,4,none⟩ (.int .i64 a4))=WR at *;obtain⟨⟨r0,r1,r2,r3,r4⟩,_⟩:=cells5 HV.out
 (try simp only[Exit.inBlock,Exit.then])
 refine bodyPost_ret (v:=.tuple #[.agg #[.int .i64 a0,.int .i64 a1,.int .i64 a2,.int .i64 a3,.int .i64 a4],.int .i64 0]) (by simp[results,Tryz.results20,go_sem,r0,r1,r2,r3,r4]) rfl ⟨rfl,HB2.out⟩
end A
end
end Go.Proofs.YtinphfpdfodkkaaGreatDoor
