/- Texts of the proof. -/
import Derived.Test.YtinphfpdfodkkaaGreatDoorM07
set_option linter.unusedVariables false
set_option linter.unusedSimpArgs false
set_option maxHeartbeats 8000000
set_option maxRecDepth 100000
namespace Go.Proofs.YtinphfpdfodkkaaGreatDoor
section
open Go.RowKit Go.Sort
namespace R
open H G A
theorem mChild(M:MMem)(p h:Nat)(w:World)(hM:ModelMem w M)(W:WF M.m)(hp:p<M.nodes.length)(hh:h<M.nodes.length):Calls Tryz.prog 119 #[.pointer (some ⟨M.mb,0,none⟩),.int .i64 p,.int .i64 h] w fun e w'=>e=.returned (.bool (childR M.m p h))/\w=w':=by
 obtain⟨c0,l0,l1⟩:=hM.top;have QC:=hi_ (mContains M h p w hM W hp);have kp:=(hM.cell hp).1;have kh:=(hM.cell hh).1;have h0l:0<M.nodes.length:=by omega
 have k50:=(hM.cell h0l).2.2.2.2.2.1;obtain⟨ao,cap,hv,hc⟩:=OwnN.form (hM.kidsRow h0l);rw[hv]at k50;have k50':w.cell? ⟨M.g,5,none⟩=some (.slice ao (nd M.m 0).kids.length cap):=by simpa using k50
 have n1:(p:Int)<(M.nodes.length:Int):=by omega
 have n2:(h:Int)<(M.nodes.length:Int):=by omega
 have n3:(0:Int)<(M.nodes.length:Int):=by omega
 have KC:=hi_ (fun y (hy:y<M.nodes.length)=>(hM.cell hy).1);have HKid:=hi_ (fun x (hx:x∈(nd M.m 0).kids)=>(show x<M.nodes.length by rw[<-M.m_len];exact(W.kid 0 x hx).1));have HR:Hid (childR M.m p h=if h=0\/contains M.m h p=true then false else if (nd M.m p).kind=2 then true else if p≠0\/(nd M.m h).kind=3 then false else(nd M.m 0).kids.all (fun k=>k==h || (nd M.m k).kind != 2 || (nd M.m h).kind != 2)):=hi_ rfl;have hfew:=hM.few;have hln:(nd M.m 0).kids.length<=1000000:=by
  have h1:(nd M.m 0).kids.length<=(List.range M.nodes.length).length:=List.Nodup.length_le_of_subset (W.nodup 0) (fun x hx=>List.mem_range.2 (by rw[<-M.m_len];exact(W.kid 0 x hx).1));rw[List.length_range]at h1;omega
 generalize childR M.m p h=R at *;generalize contains M.m h p=cc at *;generalize (nd M.m p).kind=kdp at *;generalize hkh:(nd M.m h).kind=kdh at *;generalize (nd M.m 0).kids=l at *;have HC:=hi_ hc;have HI0:Hid (∀B,B=l.all (fun k=>k==h || (nd M.m k).kind != 2 || kdh != 2)->R=if h=0\/cc=true then false else if kdp=2 then true else if p≠0\/kdh=3 then false else B):=hi_ (fun B hB=>by rw[hB];exact HR.out);generalize hlen:l.length=len at *;have HLen:=hi_ hlen;clear hM hc hv k50 hkh hlen HR h0l hp hh
 by_cases a0:h=0
 ·have HF:=hi_ (show R=false by rw[HI0.out _ rfl,if_pos (Or.inl a0)])
  have z1:((h:Int)==0)=true:=by rw[a0];rfl
  have z2:(h:Int)=0:=by omega
  clear a0
  go_enter Tryz.func119,Tryz.ntmps119
  go_wp2_with fail
  go_ret
  exact⟨ret_bool HF.out.symm,rfl⟩
 ·have z1:((h:Int)==0)=false:=beq_eq_false_iff_ne.2 (by omega)
  have z2:¬(h:Int)=0:=by omega
  have HA0:=hi_ a0;clear a0
  go_enter Tryz.func119,Tryz.ntmps119
  go_wp2_with fail
  refine QC.out.mono ?_;rintro e w1 ⟨rfl,rfl⟩
  cases cc with
  |true=>
   have HF:=hi_ (show R=false by rw[HI0.out _ rfl,if_pos (Or.inr rfl)]);go_wp2_with fail
   go_ret
   exact⟨ret_bool HF.out.symm,rfl⟩
  |false=>
   have HI1:Hid (∀B,B=l.all (fun k=>k==h || (nd M.m k).kind != 2 || kdh != 2)->R=if kdp=2 then true else if p≠0\/kdh=3 then false else B):=hi_ (fun B hB=>by
    rw[HI0.out B hB,if_neg];rintro(e|e)
    ·exact HA0.out e
    ·cases e)
   clear HI0
   by_cases b0:kdp=2
   ·have HF:=hi_ (show R=true by rw[HI1.out _ rfl,if_pos b0])
    have y1:((kdp:Int)==2)=true:=by rw[b0];rfl
    have y2:(kdp:Int)=2:=by omega
    clear b0;go_wp2_with fail
    go_ret
    exact⟨ret_bool HF.out.symm,rfl⟩
   ·have y1:((kdp:Int)==2)=false:=beq_eq_false_iff_ne.2 (by omega)
    have y2:¬(kdp:Int)=2:=by omega
    have HI2:Hid (∀B,B=l.all (fun k=>k==h || (nd M.m k).kind != 2 || kdh != 2)->R=if p≠0\/kdh=3 then false else B):=hi_ (fun B hB=>by rw[HI1.out B hB,if_neg b0]);clear b0 HI1
    by_cases d0:p=0
    ·have x1:((p:Int)==0)=true:=by rw[d0];rfl
     have x3:((p:Int) != 0)=false:=by rw[d0];rfl
     by_cases f0:kdh=3
     ·have HF:=hi_ (show R=false by rw[HI2.out _ rfl,if_pos (Or.inr f0)])
      have v1:((kdh:Int)==3)=true:=by rw[f0];rfl
      have v2:(kdh:Int)=3:=by omega
      clear f0 d0;go_wp2_with fail
      go_ret
      exact⟨ret_bool HF.out.symm,rfl⟩
     ·have v1:((kdh:Int)==3)=false:=beq_eq_false_iff_ne.2 (by omega)
      have v2:¬(kdh:Int)=3:=by omega
      have HI3:Hid (R=(l.drop 0).all (fun k=>k==h || (nd M.m k).kind != 2 || kdh != 2)):=hi_ (by
       rw[HI2.out _ rfl,if_neg,List.drop_zero];rintro(e|e)
       ·exact e d0
       ·exact f0 e)
      clear f0 d0 HI2;go_wp2_with fail
      go_loopw [7] (fun v7 wr=>∃i:Nat,v7=.int .i64 (i:Nat)/\wr=w/\i<=len/\Hid (R=(l.drop i).all (fun k=>k==h || (nd M.m k).kind != 2 || kdh != 2))) (fun v7 _=>len-(intOfV v7).toNat)
      case atStart=>exact⟨0,rfl,rfl,Nat.zero_le _,HI3⟩
      case round=>
       obtain⟨i,rfl,rfl,hi,HI⟩:=hrel;clear HI3
       by_cases hq:i=len
       ·have hnl:¬((i:Int)<(len:Int)):=by omega
        have HF:Hid (R=true):=hi_ (by rw[HI.out,List.drop_of_length_le (by rw[HLen.out];omega)];rfl);clear hq;go_wp2_with fail
        go_ret
        exact⟨ret_bool HF.out.symm,rfl⟩
       ·have hlt:(i:Int)<(len:Int):=by omega
        have hil:i<l.length:=by rw[HLen.out];omega
        have hx:l[i]?=some l[i]:=List.getElem?_eq_getElem hil;have hxl:=HKid.out _ (List.mem_of_getElem? hx);obtain⟨g,rfl,hg1,hcell⟩:=HC.out _ _ hx;have HDr:=hi_ (drop_all (f:=fun k=>k==h || (nd M.m k).kind != 2 || kdh != 2) hx);generalize l[i]=x at *;have kx:=KC.out x hxl;have nx:(x:Int)<(M.nodes.length:Int):=by omega
        have wi:IntKind.i64.wrap ((i:Int)+1)=(i:Int)+1:=IntWalk.i64_in _ (by omega);generalize hkx:(nd M.m x).kind=kk at *;have HKx:=hi_ hkx;clear hq hil hx hxl hkx
        by_cases g1:x=h
        ·have j1:((x:Int)==(h:Int))=true:=by rw[g1];exact beq_self_eq_true _
         have j2:((x:Int) != (h:Int))=false:=by rw[g1];simp
         have j3:(x:Int)=(h:Int):=by omega
         have HN:Hid (R=(l.drop (i+1)).all (fun k=>k==h || (nd M.m k).kind != 2 || kdh != 2)):=hi_ (by rw[HI.out,HDr.out,g1];simp);clear g1 j3;go_wp2_with fail
         go_roundw
         case rel=>exact⟨i+1,by first|rfl|(congr 1),trivial,by omega,HN⟩
         case measure=>
          show len-((i:Int)+1).toNat<len-((i:Int)).toNat;omega
        ·have j1:((x:Int)==(h:Int))=false:=beq_eq_false_iff_ne.2 (by omega)
         have j2:((x:Int) != (h:Int))=true:=bne_iff_ne.2 (by omega);have j3:¬(x:Int)=(h:Int):=by omega
         have HXn:=hi_ (show(x==h)=false from beq_eq_false_iff_ne.2 g1);clear g1
         by_cases g2:kk=2
         ·have i1:((kk:Int)==2)=true:=by rw[g2];rfl
          have i2:(kk:Int)=2:=by omega
          have HG2:=hi_ g2;clear g2
          by_cases g3:kdh=2
          ·have m1:((kdh:Int)==2)=true:=by rw[g3];rfl
           have m2:(kdh:Int)=2:=by omega
           have HF:Hid (R=false):=hi_ (by rw[HI.out,HDr.out,HXn.out,HG2.out,g3];rfl);clear g3;go_wp2_with fail
           go_ret
           exact⟨ret_bool HF.out.symm,rfl⟩
          ·have m1:((kdh:Int)==2)=false:=beq_eq_false_iff_ne.2 (by omega)
           have m2:¬(kdh:Int)=2:=by omega
           have HN:Hid (R=(l.drop (i+1)).all (fun k=>k==h || (nd M.m k).kind != 2 || kdh != 2)):=hi_ (by rw[HI.out,HDr.out];simp[g3]);clear g3;go_wp2_with fail
           go_roundw
           case rel=>exact⟨i+1,by first|rfl|(congr 1),trivial,by omega,HN⟩
           case measure=>
            show len-((i:Int)+1).toNat<len-((i:Int)).toNat;omega
         ·have i1:((kk:Int)==2)=false:=beq_eq_false_iff_ne.2 (by omega)
          have i2:¬(kk:Int)=2:=by omega
          have HN:Hid (R=(l.drop (i+1)).all (fun k=>k==h || (nd M.m k).kind != 2 || kdh != 2)):=hi_ (by rw[HI.out,HDr.out];simp[g2]);clear g2;go_wp2_with fail
          go_roundw
          case rel=>exact⟨i+1,by first|rfl|(congr 1),trivial,by omega,HN⟩
          case measure=>
           show len-((i:Int)+1).toNat<len-((i:Int)).toNat;omega
    ·have x1:((p:Int)==0)=false:=beq_eq_false_iff_ne.2 (by omega)
     have x2:¬(p:Int)=0:=by omega
     have x3:((p:Int) != 0)=true:=bne_iff_ne.2 (by omega);have HF:=hi_ (show R=false by rw[HI2.out _ rfl,if_pos (Or.inl d0)]);clear d0;go_wp2_with fail
     go_ret
     exact⟨ret_bool HF.out.symm,rfl⟩
end R
end
end Go.Proofs.YtinphfpdfodkkaaGreatDoor
