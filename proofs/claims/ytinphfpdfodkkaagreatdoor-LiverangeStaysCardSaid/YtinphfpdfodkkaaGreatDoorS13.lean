/- Texts. -/
import Derived.Test.YtinphfpdfodkkaaGreatDoorS12
import Derived.BigRegion
set_option linter.unusedVariables false
set_option linter.unusedSimpArgs false
set_option maxHeartbeats 8000000
set_option maxRecDepth 100000
namespace Go.Proofs.YtinphfpdfodkkaaGreatDoor
section
open Go.RowKit Go.Sort
namespace R
open H G A
theorem mChild(M:aJ_)(p h:Nat)(w:World)(hM:ac_ w M)(W:WF M.m)(hp:p<M.nodes.length)(hh:h<M.nodes.length):Calls Tryz.prog 119 #[.pointer (some ⟨M.mb,0,none⟩),.int .i64 p,.int .i64 h] w fun e w'=>e=.returned (.bool (iG_ M.m p h))/\w=w':=by
 obtain⟨c0,l0,l1⟩:=hM.top;have QC:=hi_ (ml_ M h p w hM W hp);have kp:=(hM.cell hp).1;have kh:=(hM.cell hh).1;have h0l:0<M.nodes.length:=by omega
 have k50:=(hM.cell h0l).2.2.2.2.2.1;obtain⟨ao,cap,hv,hc⟩:=cd_.form (hM.kidsRow h0l);rw[hv]at k50;have k50':w.cell? ⟨M.g,5,none⟩=some (.slice ao (nd M.m 0).kids.length cap):=by simpa using k50
 have n1:(p:Int)<(M.nodes.length:Int):=by omega
 have n2:(h:Int)<(M.nodes.length:Int):=by omega
 have n3:(0:Int)<(M.nodes.length:Int):=by omega
 have KC:=hi_ (fun y (hy:y<M.nodes.length)=>(hM.cell hy).1);have HKid:=hi_ (fun x (hx:x∈(nd M.m 0).kids)=>(show x<M.nodes.length by rw[<-M.m_len];exact(W.kid 0 x hx).1));have HR:Hd (iG_ M.m p h=if h=0\/contains M.m h p=true then false else if (nd M.m p).kind=2 then true else if p≠0\/(nd M.m h).kind=3 then false else(nd M.m 0).kids.all (fun k=>k==h || (nd M.m k).kind != 2 || (nd M.m h).kind != 2)):=hi_ rfl;have hfew:=hM.few;have hln:(nd M.m 0).kids.length<=1000000:=by
  have h1:(nd M.m 0).kids.length<=(List.range M.nodes.length).length:=List.Nodup.length_le_of_subset (W.nodup 0) (fun x hx=>List.mem_range.2 (by rw[<-M.m_len];exact(W.kid 0 x hx).1));rw[List.length_range]at h1;omega
 generalize iG_ M.m p h=R at *;generalize contains M.m h p=cc at *;generalize (nd M.m p).kind=kdp at *;generalize hkh:(nd M.m h).kind=kdh at *;generalize (nd M.m 0).kids=l at *;have HC:=hi_ hc;have HI0:Hd (∀B,B=l.all (fun k=>k==h || (nd M.m k).kind != 2 || kdh != 2)->R=if h=0\/cc=true then false else if kdp=2 then true else if p≠0\/kdh=3 then false else B):=hi_ (fun B hB=>by rw[hB];exact HR.o);generalize hlen:l.length=len at *;have HLen:=hi_ hlen;clear hM hc hv k50 hkh hlen HR h0l hp hh
 by_cases a0:h=0
 ·have HF:=hi_ (show R=false by rw[HI0.o _ rfl,if_pos (Or.inl a0)])
  have z1:((h:Int)==0)=true:=by rw[a0];rfl
  have z2:(h:Int)=0:=by omega
  clear a0
  go_enter Tryz.func119,Tryz.ntmps119
  go_wp2_with fail
  go_ret
  exact⟨ap_ HF.o.symm,rfl⟩
 have z1:((h:Int)==0)=false:=bn_ (by omega);have z2:¬(h:Int)=0:=by omega
 have HA0:=hi_ a0;clear a0
 go_enter Tryz.func119,Tryz.ntmps119
 go_wp2_with fail
 refine QC.o.mono ?_;rintro e w1 ⟨rfl,rfl⟩
 cases cc with
 |true=>
  have HF:=hi_ (show R=false by rw[HI0.o _ rfl,if_pos (Or.inr rfl)]);go_wp2_with fail
  go_ret
  exact⟨ap_ HF.o.symm,rfl⟩
 |false=>
  have HI1:Hd (∀B,B=l.all (fun k=>k==h || (nd M.m k).kind != 2 || kdh != 2)->R=if kdp=2 then true else if p≠0\/kdh=3 then false else B):=hi_ (fun B hB=>by
   rw[HI0.o B hB,if_neg];rintro(e|e)
   ·exact HA0.o e
   cases e)
  clear HI0
  by_cases b0:kdp=2
  ·have HF:=hi_ (show R=true by rw[HI1.o _ rfl,if_pos b0])
   have y1:((kdp:Int)==2)=true:=by rw[b0];rfl
   have y2:(kdp:Int)=2:=by omega
   clear b0;go_wp2_with fail
   go_ret
   exact⟨ap_ HF.o.symm,rfl⟩
  have y1:((kdp:Int)==2)=false:=bn_ (by omega);have y2:¬(kdp:Int)=2:=by omega
  have HI2:Hd (∀B,B=l.all (fun k=>k==h || (nd M.m k).kind != 2 || kdh != 2)->R=if p≠0\/kdh=3 then false else B):=hi_ (fun B hB=>by rw[HI1.o B hB,if_neg b0]);clear b0 HI1
  by_cases d0:p=0
  ·have x1:((p:Int)==0)=true:=by rw[d0];rfl
   have x3:((p:Int) != 0)=false:=by rw[d0];rfl
   by_cases f0:kdh=3
   ·have HF:=hi_ (show R=false by rw[HI2.o _ rfl,if_pos (Or.inr f0)])
    have v1:((kdh:Int)==3)=true:=by rw[f0];rfl
    have v2:(kdh:Int)=3:=by omega
    clear f0 d0;go_wp2_with fail
    go_ret
    exact⟨ap_ HF.o.symm,rfl⟩
   have v1:((kdh:Int)==3)=false:=bn_ (by omega);have v2:¬(kdh:Int)=3:=by omega
   have HI3:Hd (R=(l.drop 0).all (fun k=>k==h || (nd M.m k).kind != 2 || kdh != 2)):=hi_ (by
    rw[HI2.o _ rfl,if_neg,List.drop_zero];rintro(e|e)
    ·exact e d0
    exact f0 e)
   clear f0 d0 HI2;go_wp2_with fail
   go_loopw [7] (fun v7 wr=>∃i:Nat,v7=.int .i64 (i:Nat)/\wr=w/\i<=len/\Hd (R=(l.drop i).all (fun k=>k==h || (nd M.m k).kind != 2 || kdh != 2))) (fun v7 _=>len-(a2_ v7).toNat)
   case atStart=>exact⟨0,rfl,rfl,Nat.zero_le _,HI3⟩
   obtain⟨i,rfl,rfl,hi,HI⟩:=hrel;clear HI3
   by_cases hq:i=len
   ·have hnl:¬((i:Int)<(len:Int)):=by omega
    have HF:Hd (R=true):=hi_ (by rw[HI.o,List.drop_of_length_le (by rw[HLen.o];omega)];rfl);clear hq;go_wp2_with fail
    go_ret
    exact⟨ap_ HF.o.symm,rfl⟩
   have hlt:(i:Int)<(len:Int):=by omega
   have hil:i<l.length:=by rw[HLen.o];omega
   have hx:l[i]?=some l[i]:=List.getElem?_eq_getElem hil;have hxl:=HKid.o _ (List.mem_of_getElem? hx);obtain⟨g,rfl,hg1,hcell⟩:=HC.o _ _ hx;have HDr:=hi_ (kf_ (f:=fun k=>k==h || (nd M.m k).kind != 2 || kdh != 2) hx);generalize l[i]=x at *;have kx:=KC.o x hxl;have nx:(x:Int)<(M.nodes.length:Int):=by omega
   have wi:IntKind.i64.wrap ((i:Int)+1)=(i:Int)+1:=IntWalk.i64_in _ (by omega);generalize hkx:(nd M.m x).kind=kk at *;have HKx:=hi_ hkx;clear hq hil hx hxl hkx
   by_cases g1:x=h
   ·have j1:((x:Int)==(h:Int))=true:=by rw[g1];exact beq_self_eq_true _
    have j2:((x:Int) != (h:Int))=false:=by rw[g1];simp
    have j3:(x:Int)=(h:Int):=by omega
    have HN:Hd (R=(l.drop (i+1)).all (fun k=>k==h || (nd M.m k).kind != 2 || kdh != 2)):=hi_ (by rw[HI.o,HDr.o,g1];simp);clear g1 j3;go_wp2_with fail
    go_roundw
    case rel=>exact⟨i+1,by first|rfl|(congr 1),trivial,by omega,HN⟩
    show len-((i:Int)+1).toNat<len-((i:Int)).toNat;omega
   have j1:((x:Int)==(h:Int))=false:=bn_ (by omega);have j2:((x:Int) != (h:Int))=true:=bne_iff_ne.2 (by omega);have j3:¬(x:Int)=(h:Int):=by omega
   have HXn:=hi_ (show(x==h)=false from bn_ g1);clear g1
   by_cases g2:kk=2
   ·have i1:((kk:Int)==2)=true:=by rw[g2];rfl
    have i2:(kk:Int)=2:=by omega
    have HG2:=hi_ g2;clear g2
    by_cases g3:kdh=2
    ·have m1:((kdh:Int)==2)=true:=by rw[g3];rfl
     have m2:(kdh:Int)=2:=by omega
     have HF:Hd (R=false):=hi_ (by rw[HI.o,HDr.o,HXn.o,HG2.o,g3];rfl);clear g3;go_wp2_with fail
     go_ret
     exact⟨ap_ HF.o.symm,rfl⟩
    have m1:((kdh:Int)==2)=false:=bn_ (by omega);have m2:¬(kdh:Int)=2:=by omega
    have HN:Hd (R=(l.drop (i+1)).all (fun k=>k==h || (nd M.m k).kind != 2 || kdh != 2)):=hi_ (by rw[HI.o,HDr.o];simp[g3]);clear g3;go_wp2_with fail
    go_roundw
    case rel=>exact⟨i+1,by first|rfl|(congr 1),trivial,by omega,HN⟩
    show len-((i:Int)+1).toNat<len-((i:Int)).toNat;omega
   have i1:((kk:Int)==2)=false:=bn_ (by omega);have i2:¬(kk:Int)=2:=by omega
   have HN:Hd (R=(l.drop (i+1)).all (fun k=>k==h || (nd M.m k).kind != 2 || kdh != 2)):=hi_ (by rw[HI.o,HDr.o];simp[g2]);clear g2;go_wp2_with fail
   go_roundw
   case rel=>exact⟨i+1,by first|rfl|(congr 1),trivial,by omega,HN⟩
   show len-((i:Int)+1).toNat<len-((i:Int)).toNat;omega
  have x1:((p:Int)==0)=false:=bn_ (by omega);have x2:¬(p:Int)=0:=by omega
  have x3:((p:Int) != 0)=true:=bne_iff_ne.2 (by omega);have HF:=hi_ (show R=false by rw[HI2.o _ rfl,if_pos (Or.inl d0)]);clear d0;go_wp2_with fail
  go_ret
  exact⟨ap_ HF.o.symm,rfl⟩
end R
end
section
open Go.RowKit Go.Sort
namespace A
open H G R
def eA_(w w':World)(g o:Nat)(z k z' k':Int):Prop:=
 (Below w.heap.size w w'/\z'=z/\k'=k)\/(∃d,Below w.heap.size w d/\Below (d.setCell ⟨g,o+1,none⟩ (.int .i64 k')).heap.size (d.setCell ⟨g,o+1,none⟩ (.int .i64 k')) w'/\z'=z) ∨
 (∃d,Below w.heap.size w d/\Below ((d.setCell ⟨g,o,none⟩ (.int .i64 z')).setCell ⟨g,o+1,none⟩ (.int .i64 k')).heap.size ((d.setCell ⟨g,o,none⟩ (.int .i64 z')).setCell ⟨g,o+1,none⟩ (.int .i64 k')) w')
structure AdjM(w W:World)(T:am_)(m:aa_)(pos:Nat->Nat)(g o B:Nat)(z k:Int)(cs:Array Value):Prop where
 bel:Below w.heap.size w W
 tree:ag_ W T m pos
 blk:Blk B cs 73 W
 c0:W.cell? ⟨g,o,none⟩=some (.int .i64 z)
 c1:W.cell? ⟨g,o+1,none⟩=some (.int .i64 k)
 f0:W.frozen? ⟨g,o,none⟩=false
 f1:W.frozen? ⟨g,o+1,none⟩=false
 lt:g<W.heap.size
def gL_(T:am_)(m:aa_)(pos:Nat->Nat)(g o:Nat)(z k:Int)(cs:Array Value)(z' k':Int):Prop:=
 ∀w:World,AdjM w (w.alloc (.cells cs 73)) T m pos g o w.heap.size z k cs->Calls Tryz.prog 77 #[.pointer (some ⟨T.tb,0,none⟩),.pointer (some ⟨g,o,none⟩),.agg cs] w fun e w'=>e=.returned (.tuple #[])/\eA_ w w' g o z k z' k'
section
variable {w W W':World} {T:am_} {m:aa_} {pos:Nat->Nat} {g o B:Nat} {z k:Int}
theorem AdjM.below{cs:Array Value}(h:AdjM w W T m pos g o B z k cs)(b:Below W.heap.size W W'):AdjM w W' T m pos g o B z k cs:=
 ⟨h.bel.trans (b.mono h.bel.size),h.tree.below b,h.blk.below b,(b.cell (p:=⟨g,o,none⟩) h.lt).trans h.c0,(b.cell (p:=⟨g,o+1,none⟩) h.lt).trans h.c1,(b.frozen (p:=⟨g,o,none⟩) h.lt).trans h.f0,(b.frozen (p:=⟨g,o+1,none⟩) h.lt).trans h.f1,Nat.lt_of_lt_of_le h.lt b.size⟩
theorem AdjM.cells{a0 a1 a2 a3 a4 a5 a6 a7 a8 a9 a10:Value}(h:AdjM w W T m pos g o B z k #[a0,a1,a2,a3,a4,a5,a6,a7,a8,a9,a10]) :
  (W.cell? ⟨B,0,none⟩=some a0/\W.cell? ⟨B,1,none⟩=some a1/\W.cell? ⟨B,2,none⟩=some a2/\W.cell? ⟨B,5,none⟩=some a5/\W.cell? ⟨B,9,none⟩=some a9/\W.cell? ⟨B,10,none⟩=some a10) ∧
  ((∀d:Later W.heap.size W,d.w.cell? ⟨B,0,none⟩=some a0)/\(∀d:Later W.heap.size W,d.w.cell? ⟨B,1,none⟩=some a1)/\(∀d:Later W.heap.size W,d.w.cell? ⟨B,2,none⟩=some a2)/\(∀d:Later W.heap.size W,d.w.cell? ⟨B,5,none⟩=some a5)/\(∀d:Later W.heap.size W,d.w.cell? ⟨B,9,none⟩=some a9)/\∀d:Later W.heap.size W,d.w.cell? ⟨B,10,none⟩=some a10) ∧
  (W.cell? ⟨g,o,none⟩=some (.int .i64 z)/\W.cell? ⟨g,o+1,none⟩=some (.int .i64 k)/\W.frozen? ⟨g,o,none⟩=false/\W.frozen? ⟨g,o+1,none⟩=false/\g<W.heap.size) ∧
  (∀d:Later W.heap.size W,d.w.cell? ⟨g,o,none⟩=some (.int .i64 z))/\∀d:Later W.heap.size W,d.w.cell? ⟨g,o+1,none⟩=some (.int .i64 k):=by
 have hc:=(ae_ h.blk).1;have hl:=h.blk.lt;exact⟨⟨hc 0,hc 1,hc 2,hc 5,hc 9,hc 10⟩,⟨fun d=>Later.cell (hc 0) hl d,fun d=>Later.cell (hc 1) hl d,fun d=>Later.cell (hc 2) hl d,fun d=>Later.cell (hc 5) hl d,fun d=>Later.cell (hc 9) hl d,fun d=>Later.cell (hc 10) hl d⟩,⟨h.c0,h.c1,h.f0,h.f1,h.lt⟩,fun d=>Later.cell h.c0 h.lt d,fun d=>Later.cell h.c1 h.lt d⟩
end
theorem adj_in(T:am_)(m:aa_)(pos:Nat->Nat)(g o:Nat)(z k kd tz nz pz xz ix ct sz:Int)(s1 s2 b1:Value)(hC:∀W,ag_ W T m pos->Calls Tryz.prog 40 #[.pointer (some ⟨T.tb,0,none⟩),.int .i64 nz,.int .i64 z] W fun e w'=>e=.returned (.bool true)/\Below W.heap.size W w'):gL_ T m pos g o z k #[.int .i64 2,.int .i64 tz,.int .i64 nz,.int .i64 pz,.int .i64 xz,.int .i64 ix,s1,s2,b1,.int .i64 ct,.int .i64 sz] tz ix:=by
 intro w hA;have HA1:=hi_ hA;clear hA;have QC:=hi_ hC;clear hC
 go_enter Tryz.func77,Tryz.ntmps77
 go_upto_region 1 with fail
 generalize w.alloc (.cells _ _)=w1 at *;obtain⟨⟨r0,r1,r2,r5,r9,r10⟩,⟨R0,R1,R2,R5,R9,R10⟩,⟨c0,c1,f0,f1,lt⟩,C0,C1⟩:=HA1.o.cells;refine af_ (by kernel_rfl) (by kernel_rfl) ?_;repeat (go_big_quiet_step ((go_at_call 40;exact Calls.later (QC.o _ (HA1.o.tree.below (Later.h _))))))
 refine wq_ (fun dq=>?_);have HA2:=hi_ (HA1.o.below dq.h);clear r0 r1 r2 r5 r9 r10 R0 R1 R2 R5 R9 R10 c0 c1 f0 f1 lt C0 C1;clear HA1;generalize dq.w=w2 at *;clear dq;obtain⟨⟨r0,r1,r2,r5,r9,r10⟩,⟨R0,R1,R2,R5,R9,R10⟩,⟨c0,c1,f0,f1,lt⟩,C0,C1⟩:=HA2.o.cells;go_wp2_with fail
 exact bodyPost_end (v:=.tuple #[]) (by simp[results,Tryz.results77,go_sem]) rfl ⟨rfl,Or.inr (Or.inr ⟨_,HA2.o.bel,br_⟩)⟩
theorem oG_(T:am_)(m:aa_)(pos:Nat->Nat)(g o:Nat)(z k kd tz nz pz xz ix ct sz:Int)(s1 s2 b1:Value)(hC:∀W,ag_ W T m pos->Calls Tryz.prog 40 #[.pointer (some ⟨T.tb,0,none⟩),.int .i64 nz,.int .i64 z] W fun e w'=>e=.returned (.bool false)/\Below W.heap.size W w')(hn:¬z=tz):gL_ T m pos g o z k #[.int .i64 2,.int .i64 tz,.int .i64 nz,.int .i64 pz,.int .i64 xz,.int .i64 ix,s1,s2,b1,.int .i64 ct,.int .i64 sz] z k:=by
 intro w hA;have HA1:=hi_ hA;clear hA;have QC:=hi_ hC;clear hC;have n1:(z==tz)=false:=bn_ hn;have n2:(z != tz)=true:=bne_iff_ne.2 hn
 go_enter Tryz.func77,Tryz.ntmps77
 go_upto_region 1 with fail
 generalize w.alloc (.cells _ _)=w1 at *;obtain⟨⟨r0,r1,r2,r5,r9,r10⟩,⟨R0,R1,R2,R5,R9,R10⟩,⟨c0,c1,f0,f1,lt⟩,C0,C1⟩:=HA1.o.cells;refine af_ (by kernel_rfl) (by kernel_rfl) ?_;repeat (go_big_quiet_step ((go_at_call 40;exact Calls.later (QC.o _ (HA1.o.tree.below (Later.h _))))))
 refine wq_ (fun dq=>?_);have HA2:=hi_ (HA1.o.below dq.h);clear r0 r1 r2 r5 r9 r10 R0 R1 R2 R5 R9 R10 c0 c1 f0 f1 lt C0 C1;clear HA1;generalize dq.w=w2 at *;clear dq;obtain⟨⟨r0,r1,r2,r5,r9,r10⟩,⟨R0,R1,R2,R5,R9,R10⟩,⟨c0,c1,f0,f1,lt⟩,C0,C1⟩:=HA2.o.cells;go_upto_region 3 with fail
 clear r0 r1 r2 r5 r9 r10 R0 R1 R2 R5 R9 R10 c0 c1 f0 f1 lt C0 C1;obtain⟨⟨r0,r1,r2,r5,r9,r10⟩,⟨R0,R1,R2,R5,R9,R10⟩,⟨c0,c1,f0,f1,lt⟩,C0,C1⟩:=HA2.o.cells;refine af_ (by kernel_rfl) (by kernel_rfl) ?_;repeat (go_big_quiet_step ((fail)))
 refine wq_ (fun dq=>?_);have HA3:=hi_ (HA2.o.below dq.h);clear r0 r1 r2 r5 r9 r10 R0 R1 R2 R5 R9 R10 c0 c1 f0 f1 lt C0 C1;clear HA2;generalize dq.w=w3 at *;clear dq;obtain⟨⟨r0,r1,r2,r5,r9,r10⟩,⟨R0,R1,R2,R5,R9,R10⟩,⟨c0,c1,f0,f1,lt⟩,C0,C1⟩:=HA3.o.cells;go_wp2_with fail
 exact bodyPost_end (v:=.tuple #[]) (by simp[results,Tryz.results77,go_sem]) rfl ⟨rfl,Or.inl ⟨HA3.o.bel,rfl,rfl⟩⟩
theorem oH_(T:am_)(m:aa_)(pos:Nat->Nat)(g o:Nat)(z k kd tz nz pz xz ix ct sz:Int)(s1 s2 b1:Value)(hC:∀W,ag_ W T m pos->Calls Tryz.prog 40 #[.pointer (some ⟨T.tb,0,none⟩),.int .i64 nz,.int .i64 z] W fun e w'=>e=.returned (.bool false)/\Below W.heap.size W w')(hi:k<=ix):gL_ T m pos g o z k #[.int .i64 2,.int .i64 z,.int .i64 nz,.int .i64 pz,.int .i64 xz,.int .i64 ix,s1,s2,b1,.int .i64 ct,.int .i64 sz] z k:=by
 intro w hA;have HA1:=hi_ hA;clear hA;have QC:=hi_ hC;clear hC;have i1:decide (k<=ix)=true:=decide_eq_true hi
 go_enter Tryz.func77,Tryz.ntmps77
 go_upto_region 1 with fail
 generalize w.alloc (.cells _ _)=w1 at *;obtain⟨⟨r0,r1,r2,r5,r9,r10⟩,⟨R0,R1,R2,R5,R9,R10⟩,⟨c0,c1,f0,f1,lt⟩,C0,C1⟩:=HA1.o.cells;refine af_ (by kernel_rfl) (by kernel_rfl) ?_;repeat (go_big_quiet_step ((go_at_call 40;exact Calls.later (QC.o _ (HA1.o.tree.below (Later.h _))))))
 refine wq_ (fun dq=>?_);have HA2:=hi_ (HA1.o.below dq.h);clear r0 r1 r2 r5 r9 r10 R0 R1 R2 R5 R9 R10 c0 c1 f0 f1 lt C0 C1;clear HA1;generalize dq.w=w2 at *;clear dq;obtain⟨⟨r0,r1,r2,r5,r9,r10⟩,⟨R0,R1,R2,R5,R9,R10⟩,⟨c0,c1,f0,f1,lt⟩,C0,C1⟩:=HA2.o.cells;go_upto_region 3 with fail
 clear r0 r1 r2 r5 r9 r10 R0 R1 R2 R5 R9 R10 c0 c1 f0 f1 lt C0 C1;obtain⟨⟨r0,r1,r2,r5,r9,r10⟩,⟨R0,R1,R2,R5,R9,R10⟩,⟨c0,c1,f0,f1,lt⟩,C0,C1⟩:=HA2.o.cells;refine af_ (by kernel_rfl) (by kernel_rfl) ?_;repeat (go_big_quiet_step ((fail)))
 refine wq_ (fun dq=>?_);have HA3:=hi_ (HA2.o.below dq.h);clear r0 r1 r2 r5 r9 r10 R0 R1 R2 R5 R9 R10 c0 c1 f0 f1 lt C0 C1;clear HA2;generalize dq.w=w3 at *;clear dq;obtain⟨⟨r0,r1,r2,r5,r9,r10⟩,⟨R0,R1,R2,R5,R9,R10⟩,⟨c0,c1,f0,f1,lt⟩,C0,C1⟩:=HA3.o.cells;go_wp2_with fail
 exact bodyPost_end (v:=.tuple #[]) (by simp[results,Tryz.results77,go_sem]) rfl ⟨rfl,Or.inl ⟨HA3.o.bel,rfl,rfl⟩⟩
theorem oC_(T:am_)(m:aa_)(pos:Nat->Nat)(g o:Nat)(z k kd tz nz pz xz ix ct sz:Int)(s1 s2 b1:Value)(k2:¬kd=2)(hn:¬z=tz):gL_ T m pos g o z k #[.int .i64 kd,.int .i64 tz,.int .i64 nz,.int .i64 pz,.int .i64 xz,.int .i64 ix,s1,s2,b1,.int .i64 ct,.int .i64 sz] z k:=by
 intro w hA;have HA1:=hi_ hA;clear hA;have e2:(kd==2)=false:=bn_ k2;have n1:(z==tz)=false:=bn_ hn;have n2:(z != tz)=true:=bne_iff_ne.2 hn
 go_enter Tryz.func77,Tryz.ntmps77
 go_upto_region 1 with fail
 generalize w.alloc (.cells _ _)=w1 at *;obtain⟨⟨r0,r1,r2,r5,r9,r10⟩,⟨R0,R1,R2,R5,R9,R10⟩,⟨c0,c1,f0,f1,lt⟩,C0,C1⟩:=HA1.o.cells;refine af_ (by kernel_rfl) (by kernel_rfl) ?_;repeat (go_big_quiet_step ((fail)))
 refine wq_ (fun dq=>?_);have HA2:=hi_ (HA1.o.below dq.h);clear r0 r1 r2 r5 r9 r10 R0 R1 R2 R5 R9 R10 c0 c1 f0 f1 lt C0 C1;clear HA1;generalize dq.w=w2 at *;clear dq;obtain⟨⟨r0,r1,r2,r5,r9,r10⟩,⟨R0,R1,R2,R5,R9,R10⟩,⟨c0,c1,f0,f1,lt⟩,C0,C1⟩:=HA2.o.cells;go_upto_region 3 with fail
 clear r0 r1 r2 r5 r9 r10 R0 R1 R2 R5 R9 R10 c0 c1 f0 f1 lt C0 C1;obtain⟨⟨r0,r1,r2,r5,r9,r10⟩,⟨R0,R1,R2,R5,R9,R10⟩,⟨c0,c1,f0,f1,lt⟩,C0,C1⟩:=HA2.o.cells;refine af_ (by kernel_rfl) (by kernel_rfl) ?_;repeat (go_big_quiet_step ((fail)))
 refine wq_ (fun dq=>?_);have HA3:=hi_ (HA2.o.below dq.h);clear r0 r1 r2 r5 r9 r10 R0 R1 R2 R5 R9 R10 c0 c1 f0 f1 lt C0 C1;clear HA2;generalize dq.w=w3 at *;clear dq;obtain⟨⟨r0,r1,r2,r5,r9,r10⟩,⟨R0,R1,R2,R5,R9,R10⟩,⟨c0,c1,f0,f1,lt⟩,C0,C1⟩:=HA3.o.cells;go_wp2_with fail
 exact bodyPost_end (v:=.tuple #[]) (by simp[results,Tryz.results77,go_sem]) rfl ⟨rfl,Or.inl ⟨HA3.o.bel,rfl,rfl⟩⟩
theorem oD_(T:am_)(m:aa_)(pos:Nat->Nat)(g o:Nat)(z k kd tz nz pz xz ix ct sz:Int)(s1 s2 b1:Value)(k2:¬kd=2)(hi:k<=ix):gL_ T m pos g o z k #[.int .i64 kd,.int .i64 z,.int .i64 nz,.int .i64 pz,.int .i64 xz,.int .i64 ix,s1,s2,b1,.int .i64 ct,.int .i64 sz] z k:=by
 intro w hA;have HA1:=hi_ hA;clear hA;have e2:(kd==2)=false:=bn_ k2;have i1:decide (k<=ix)=true:=decide_eq_true hi
 go_enter Tryz.func77,Tryz.ntmps77
 go_upto_region 1 with fail
 generalize w.alloc (.cells _ _)=w1 at *;obtain⟨⟨r0,r1,r2,r5,r9,r10⟩,⟨R0,R1,R2,R5,R9,R10⟩,⟨c0,c1,f0,f1,lt⟩,C0,C1⟩:=HA1.o.cells;refine af_ (by kernel_rfl) (by kernel_rfl) ?_;repeat (go_big_quiet_step ((fail)))
 refine wq_ (fun dq=>?_);have HA2:=hi_ (HA1.o.below dq.h);clear r0 r1 r2 r5 r9 r10 R0 R1 R2 R5 R9 R10 c0 c1 f0 f1 lt C0 C1;clear HA1;generalize dq.w=w2 at *;clear dq;obtain⟨⟨r0,r1,r2,r5,r9,r10⟩,⟨R0,R1,R2,R5,R9,R10⟩,⟨c0,c1,f0,f1,lt⟩,C0,C1⟩:=HA2.o.cells;go_upto_region 3 with fail
 clear r0 r1 r2 r5 r9 r10 R0 R1 R2 R5 R9 R10 c0 c1 f0 f1 lt C0 C1;obtain⟨⟨r0,r1,r2,r5,r9,r10⟩,⟨R0,R1,R2,R5,R9,R10⟩,⟨c0,c1,f0,f1,lt⟩,C0,C1⟩:=HA2.o.cells;refine af_ (by kernel_rfl) (by kernel_rfl) ?_;repeat (go_big_quiet_step ((fail)))
 refine wq_ (fun dq=>?_);have HA3:=hi_ (HA2.o.below dq.h);clear r0 r1 r2 r5 r9 r10 R0 R1 R2 R5 R9 R10 c0 c1 f0 f1 lt C0 C1;clear HA2;generalize dq.w=w3 at *;clear dq;obtain⟨⟨r0,r1,r2,r5,r9,r10⟩,⟨R0,R1,R2,R5,R9,R10⟩,⟨c0,c1,f0,f1,lt⟩,C0,C1⟩:=HA3.o.cells;go_wp2_with fail
 exact bodyPost_end (v:=.tuple #[]) (by simp[results,Tryz.results77,go_sem]) rfl ⟨rfl,Or.inl ⟨HA3.o.bel,rfl,rfl⟩⟩
theorem oI_(T:am_)(m:aa_)(pos:Nat->Nat)(g o:Nat)(z k kd tz nz pz xz ix ct sz:Int)(s1 s2 b1:Value)(hC:∀W,ag_ W T m pos->Calls Tryz.prog 40 #[.pointer (some ⟨T.tb,0,none⟩),.int .i64 nz,.int .i64 z] W fun e w'=>e=.returned (.bool false)/\Below W.heap.size W w')(hi:¬k<=ix)(hw:IntKind.i64.wrap (k-1)=k-1):gL_ T m pos g o z k #[.int .i64 2,.int .i64 z,.int .i64 nz,.int .i64 pz,.int .i64 xz,.int .i64 ix,s1,s2,b1,.int .i64 ct,.int .i64 sz] z (k-1):=by
 intro w hA;have HA1:=hi_ hA;clear hA;have QC:=hi_ hC;clear hC;have i1:decide (k<=ix)=false:=decide_eq_false hi
 go_enter Tryz.func77,Tryz.ntmps77
 go_upto_region 1 with fail
 generalize w.alloc (.cells _ _)=w1 at *;obtain⟨⟨r0,r1,r2,r5,r9,r10⟩,⟨R0,R1,R2,R5,R9,R10⟩,⟨c0,c1,f0,f1,lt⟩,C0,C1⟩:=HA1.o.cells;refine af_ (by kernel_rfl) (by kernel_rfl) ?_;repeat (go_big_quiet_step ((go_at_call 40;exact Calls.later (QC.o _ (HA1.o.tree.below (Later.h _))))))
 refine wq_ (fun dq=>?_);have HA2:=hi_ (HA1.o.below dq.h);clear r0 r1 r2 r5 r9 r10 R0 R1 R2 R5 R9 R10 c0 c1 f0 f1 lt C0 C1;clear HA1;generalize dq.w=w2 at *;clear dq;obtain⟨⟨r0,r1,r2,r5,r9,r10⟩,⟨R0,R1,R2,R5,R9,R10⟩,⟨c0,c1,f0,f1,lt⟩,C0,C1⟩:=HA2.o.cells;go_upto_region 3 with fail
 clear r0 r1 r2 r5 r9 r10 R0 R1 R2 R5 R9 R10 c0 c1 f0 f1 lt C0 C1;obtain⟨⟨r0,r1,r2,r5,r9,r10⟩,⟨R0,R1,R2,R5,R9,R10⟩,⟨c0,c1,f0,f1,lt⟩,C0,C1⟩:=HA2.o.cells;refine af_ (by kernel_rfl) (by kernel_rfl) ?_;repeat (go_big_quiet_step ((fail)))
 refine wq_ (fun dq=>?_);have HA3:=hi_ (HA2.o.below dq.h);clear r0 r1 r2 r5 r9 r10 R0 R1 R2 R5 R9 R10 c0 c1 f0 f1 lt C0 C1;clear HA2;generalize dq.w=w3 at *;clear dq;obtain⟨⟨r0,r1,r2,r5,r9,r10⟩,⟨R0,R1,R2,R5,R9,R10⟩,⟨c0,c1,f0,f1,lt⟩,C0,C1⟩:=HA3.o.cells;go_wp2_with fail
 exact bodyPost_end (v:=.tuple #[]) (by simp[results,Tryz.results77,go_sem]) rfl ⟨rfl,Or.inr (Or.inl ⟨_,HA3.o.bel,br_,rfl⟩)⟩
theorem oJ_(T:am_)(m:aa_)(pos:Nat->Nat)(g o:Nat)(z k kd tz nz pz xz ix ct sz:Int)(s1 s2 b1:Value)(hi:¬k<=ix)(hw:IntKind.i64.wrap (k+1)=k+1):gL_ T m pos g o z k #[.int .i64 1,.int .i64 z,.int .i64 nz,.int .i64 pz,.int .i64 xz,.int .i64 ix,s1,s2,b1,.int .i64 ct,.int .i64 sz] z (k+1):=by
 intro w hA;have HA1:=hi_ hA;clear hA;have i1:decide (k<=ix)=false:=decide_eq_false hi
 go_enter Tryz.func77,Tryz.ntmps77
 go_upto_region 1 with fail
 generalize w.alloc (.cells _ _)=w1 at *;obtain⟨⟨r0,r1,r2,r5,r9,r10⟩,⟨R0,R1,R2,R5,R9,R10⟩,⟨c0,c1,f0,f1,lt⟩,C0,C1⟩:=HA1.o.cells;refine af_ (by kernel_rfl) (by kernel_rfl) ?_;repeat (go_big_quiet_step ((fail)))
 refine wq_ (fun dq=>?_);have HA2:=hi_ (HA1.o.below dq.h);clear r0 r1 r2 r5 r9 r10 R0 R1 R2 R5 R9 R10 c0 c1 f0 f1 lt C0 C1;clear HA1;generalize dq.w=w2 at *;clear dq;obtain⟨⟨r0,r1,r2,r5,r9,r10⟩,⟨R0,R1,R2,R5,R9,R10⟩,⟨c0,c1,f0,f1,lt⟩,C0,C1⟩:=HA2.o.cells;go_upto_region 3 with fail
 clear r0 r1 r2 r5 r9 r10 R0 R1 R2 R5 R9 R10 c0 c1 f0 f1 lt C0 C1;obtain⟨⟨r0,r1,r2,r5,r9,r10⟩,⟨R0,R1,R2,R5,R9,R10⟩,⟨c0,c1,f0,f1,lt⟩,C0,C1⟩:=HA2.o.cells;refine af_ (by kernel_rfl) (by kernel_rfl) ?_;repeat (go_big_quiet_step ((fail)))
 refine wq_ (fun dq=>?_);have HA3:=hi_ (HA2.o.below dq.h);clear r0 r1 r2 r5 r9 r10 R0 R1 R2 R5 R9 R10 c0 c1 f0 f1 lt C0 C1;clear HA2;generalize dq.w=w3 at *;clear dq;obtain⟨⟨r0,r1,r2,r5,r9,r10⟩,⟨R0,R1,R2,R5,R9,R10⟩,⟨c0,c1,f0,f1,lt⟩,C0,C1⟩:=HA3.o.cells;go_wp2_with fail
 exact bodyPost_end (v:=.tuple #[]) (by simp[results,Tryz.results77,go_sem]) rfl ⟨rfl,Or.inr (Or.inl ⟨_,HA3.o.bel,br_,rfl⟩)⟩
theorem oE_(T:am_)(m:aa_)(pos:Nat->Nat)(g o:Nat)(z k kd tz nz pz xz ix ct sz:Int)(s1 s2 b1:Value)(k1:¬kd=1)(k2:¬kd=2)(k4:¬kd=4)(hi:¬k<=ix):gL_ T m pos g o z k #[.int .i64 kd,.int .i64 z,.int .i64 nz,.int .i64 pz,.int .i64 xz,.int .i64 ix,s1,s2,b1,.int .i64 ct,.int .i64 sz] z k:=by
 intro w hA;have HA1:=hi_ hA;clear hA;have e1:(kd==1)=false:=bn_ k1;have e2:(kd==2)=false:=bn_ k2;have e4:(kd==4)=false:=bn_ k4;have i1:decide (k<=ix)=false:=decide_eq_false hi
 go_enter Tryz.func77,Tryz.ntmps77
 go_upto_region 1 with fail
 generalize w.alloc (.cells _ _)=w1 at *;obtain⟨⟨r0,r1,r2,r5,r9,r10⟩,⟨R0,R1,R2,R5,R9,R10⟩,⟨c0,c1,f0,f1,lt⟩,C0,C1⟩:=HA1.o.cells;refine af_ (by kernel_rfl) (by kernel_rfl) ?_;repeat (go_big_quiet_step ((fail)))
 refine wq_ (fun dq=>?_);have HA2:=hi_ (HA1.o.below dq.h);clear r0 r1 r2 r5 r9 r10 R0 R1 R2 R5 R9 R10 c0 c1 f0 f1 lt C0 C1;clear HA1;generalize dq.w=w2 at *;clear dq;obtain⟨⟨r0,r1,r2,r5,r9,r10⟩,⟨R0,R1,R2,R5,R9,R10⟩,⟨c0,c1,f0,f1,lt⟩,C0,C1⟩:=HA2.o.cells;go_upto_region 3 with fail
 clear r0 r1 r2 r5 r9 r10 R0 R1 R2 R5 R9 R10 c0 c1 f0 f1 lt C0 C1;obtain⟨⟨r0,r1,r2,r5,r9,r10⟩,⟨R0,R1,R2,R5,R9,R10⟩,⟨c0,c1,f0,f1,lt⟩,C0,C1⟩:=HA2.o.cells;refine af_ (by kernel_rfl) (by kernel_rfl) ?_;repeat (go_big_quiet_step ((fail)))
 refine wq_ (fun dq=>?_);have HA3:=hi_ (HA2.o.below dq.h);clear r0 r1 r2 r5 r9 r10 R0 R1 R2 R5 R9 R10 c0 c1 f0 f1 lt C0 C1;clear HA2;generalize dq.w=w3 at *;clear dq;obtain⟨⟨r0,r1,r2,r5,r9,r10⟩,⟨R0,R1,R2,R5,R9,R10⟩,⟨c0,c1,f0,f1,lt⟩,C0,C1⟩:=HA3.o.cells;go_upto_region 8 with fail
 clear r0 r1 r2 r5 r9 r10 R0 R1 R2 R5 R9 R10 c0 c1 f0 f1 lt C0 C1;obtain⟨⟨r0,r1,r2,r5,r9,r10⟩,⟨R0,R1,R2,R5,R9,R10⟩,⟨c0,c1,f0,f1,lt⟩,C0,C1⟩:=HA3.o.cells;refine af_ (by kernel_rfl) (by kernel_rfl) ?_;repeat (go_big_quiet_step ((fail)))
 refine wq_ (fun dq=>?_);have HA4:=hi_ (HA3.o.below dq.h);clear r0 r1 r2 r5 r9 r10 R0 R1 R2 R5 R9 R10 c0 c1 f0 f1 lt C0 C1;clear HA3;generalize dq.w=w4 at *;clear dq;obtain⟨⟨r0,r1,r2,r5,r9,r10⟩,⟨R0,R1,R2,R5,R9,R10⟩,⟨c0,c1,f0,f1,lt⟩,C0,C1⟩:=HA4.o.cells;go_wp2_with fail
 exact bodyPost_end (v:=.tuple #[]) (by simp[results,Tryz.results77,go_sem]) rfl ⟨rfl,Or.inl ⟨HA4.o.bel,rfl,rfl⟩⟩
theorem oF_(T:am_)(m:aa_)(pos:Nat->Nat)(g o:Nat)(z k kd tz nz pz xz ix ct sz:Int)(s1 s2 b1:Value)(hi:¬k<=ix)(hj:k<=ix+ct)(hw:IntKind.i64.wrap (ix+ct)=ix+ct):gL_ T m pos g o z k #[.int .i64 4,.int .i64 z,.int .i64 nz,.int .i64 pz,.int .i64 xz,.int .i64 ix,s1,s2,b1,.int .i64 ct,.int .i64 sz] z ix:=by
 intro w hA;have HA1:=hi_ hA;clear hA;have i1:decide (k<=ix)=false:=decide_eq_false hi;have j1:decide (k<=ix+ct)=true:=decide_eq_true hj
 go_enter Tryz.func77,Tryz.ntmps77
 go_upto_region 1 with fail
 generalize w.alloc (.cells _ _)=w1 at *;obtain⟨⟨r0,r1,r2,r5,r9,r10⟩,⟨R0,R1,R2,R5,R9,R10⟩,⟨c0,c1,f0,f1,lt⟩,C0,C1⟩:=HA1.o.cells;refine af_ (by kernel_rfl) (by kernel_rfl) ?_;repeat (go_big_quiet_step ((fail)))
 refine wq_ (fun dq=>?_);have HA2:=hi_ (HA1.o.below dq.h);clear r0 r1 r2 r5 r9 r10 R0 R1 R2 R5 R9 R10 c0 c1 f0 f1 lt C0 C1;clear HA1;generalize dq.w=w2 at *;clear dq;obtain⟨⟨r0,r1,r2,r5,r9,r10⟩,⟨R0,R1,R2,R5,R9,R10⟩,⟨c0,c1,f0,f1,lt⟩,C0,C1⟩:=HA2.o.cells;go_upto_region 3 with fail
 clear r0 r1 r2 r5 r9 r10 R0 R1 R2 R5 R9 R10 c0 c1 f0 f1 lt C0 C1;obtain⟨⟨r0,r1,r2,r5,r9,r10⟩,⟨R0,R1,R2,R5,R9,R10⟩,⟨c0,c1,f0,f1,lt⟩,C0,C1⟩:=HA2.o.cells;refine af_ (by kernel_rfl) (by kernel_rfl) ?_;repeat (go_big_quiet_step ((fail)))
 refine wq_ (fun dq=>?_);have HA3:=hi_ (HA2.o.below dq.h);clear r0 r1 r2 r5 r9 r10 R0 R1 R2 R5 R9 R10 c0 c1 f0 f1 lt C0 C1;clear HA2;generalize dq.w=w3 at *;clear dq;obtain⟨⟨r0,r1,r2,r5,r9,r10⟩,⟨R0,R1,R2,R5,R9,R10⟩,⟨c0,c1,f0,f1,lt⟩,C0,C1⟩:=HA3.o.cells;go_upto_region 8 with fail
 clear r0 r1 r2 r5 r9 r10 R0 R1 R2 R5 R9 R10 c0 c1 f0 f1 lt C0 C1;obtain⟨⟨r0,r1,r2,r5,r9,r10⟩,⟨R0,R1,R2,R5,R9,R10⟩,⟨c0,c1,f0,f1,lt⟩,C0,C1⟩:=HA3.o.cells;refine af_ (by kernel_rfl) (by kernel_rfl) ?_;repeat (go_big_quiet_step ((fail)))
 refine wq_ (fun dq=>?_);have HA4:=hi_ (HA3.o.below dq.h);clear r0 r1 r2 r5 r9 r10 R0 R1 R2 R5 R9 R10 c0 c1 f0 f1 lt C0 C1;clear HA3;generalize dq.w=w4 at *;clear dq;obtain⟨⟨r0,r1,r2,r5,r9,r10⟩,⟨R0,R1,R2,R5,R9,R10⟩,⟨c0,c1,f0,f1,lt⟩,C0,C1⟩:=HA4.o.cells;go_wp2_with fail
 exact bodyPost_end (v:=.tuple #[]) (by simp[results,Tryz.results77,go_sem]) rfl ⟨rfl,Or.inr (Or.inl ⟨_,HA4.o.bel,br_,rfl⟩)⟩
theorem nq_(T:am_)(m:aa_)(pos:Nat->Nat)(g o:Nat)(z k kd tz nz pz xz ix ct sz:Int)(s1 s2 b1:Value)(hi:¬k<=ix)(hj:¬k<=ix+ct)(hw:IntKind.i64.wrap (ix+ct)=ix+ct)(hw2:IntKind.i64.wrap (sz-ct)=sz-ct)(hw3:IntKind.i64.wrap (k+(sz-ct))=k+(sz-ct)):gL_ T m pos g o z k #[.int .i64 4,.int .i64 z,.int .i64 nz,.int .i64 pz,.int .i64 xz,.int .i64 ix,s1,s2,b1,.int .i64 ct,.int .i64 sz] z (k+(sz-ct)):=by
 intro w hA;have HA1:=hi_ hA;clear hA;have i1:decide (k<=ix)=false:=decide_eq_false hi;have j1:decide (k<=ix+ct)=false:=decide_eq_false hj
 go_enter Tryz.func77,Tryz.ntmps77
 go_upto_region 1 with fail
 generalize w.alloc (.cells _ _)=w1 at *;obtain⟨⟨r0,r1,r2,r5,r9,r10⟩,⟨R0,R1,R2,R5,R9,R10⟩,⟨c0,c1,f0,f1,lt⟩,C0,C1⟩:=HA1.o.cells;refine af_ (by kernel_rfl) (by kernel_rfl) ?_;repeat (go_big_quiet_step ((fail)))
 refine wq_ (fun dq=>?_);have HA2:=hi_ (HA1.o.below dq.h);clear r0 r1 r2 r5 r9 r10 R0 R1 R2 R5 R9 R10 c0 c1 f0 f1 lt C0 C1;clear HA1;generalize dq.w=w2 at *;clear dq;obtain⟨⟨r0,r1,r2,r5,r9,r10⟩,⟨R0,R1,R2,R5,R9,R10⟩,⟨c0,c1,f0,f1,lt⟩,C0,C1⟩:=HA2.o.cells;go_upto_region 3 with fail
 clear r0 r1 r2 r5 r9 r10 R0 R1 R2 R5 R9 R10 c0 c1 f0 f1 lt C0 C1;obtain⟨⟨r0,r1,r2,r5,r9,r10⟩,⟨R0,R1,R2,R5,R9,R10⟩,⟨c0,c1,f0,f1,lt⟩,C0,C1⟩:=HA2.o.cells;refine af_ (by kernel_rfl) (by kernel_rfl) ?_;repeat (go_big_quiet_step ((fail)))
 refine wq_ (fun dq=>?_);have HA3:=hi_ (HA2.o.below dq.h);clear r0 r1 r2 r5 r9 r10 R0 R1 R2 R5 R9 R10 c0 c1 f0 f1 lt C0 C1;clear HA2;generalize dq.w=w3 at *;clear dq;obtain⟨⟨r0,r1,r2,r5,r9,r10⟩,⟨R0,R1,R2,R5,R9,R10⟩,⟨c0,c1,f0,f1,lt⟩,C0,C1⟩:=HA3.o.cells;go_upto_region 8 with fail
 clear r0 r1 r2 r5 r9 r10 R0 R1 R2 R5 R9 R10 c0 c1 f0 f1 lt C0 C1;obtain⟨⟨r0,r1,r2,r5,r9,r10⟩,⟨R0,R1,R2,R5,R9,R10⟩,⟨c0,c1,f0,f1,lt⟩,C0,C1⟩:=HA3.o.cells;refine af_ (by kernel_rfl) (by kernel_rfl) ?_;repeat (go_big_quiet_step ((fail)))
 refine wq_ (fun dq=>?_);have HA4:=hi_ (HA3.o.below dq.h);clear r0 r1 r2 r5 r9 r10 R0 R1 R2 R5 R9 R10 c0 c1 f0 f1 lt C0 C1;clear HA3;generalize dq.w=w4 at *;clear dq;obtain⟨⟨r0,r1,r2,r5,r9,r10⟩,⟨R0,R1,R2,R5,R9,R10⟩,⟨c0,c1,f0,f1,lt⟩,C0,C1⟩:=HA4.o.cells;clear R0 R1 R2 R5 R9 R10 C0 C1 r1 r2;go_upto_region 11 with fail
 go_region
 all_goals (go_wp2_with fail;exact bodyPost_end (v:=.tuple #[]) (by simp[results,Tryz.results77,go_sem]) rfl ⟨rfl,Or.inr (Or.inl ⟨_,HA4.o.bel,(br_).drew,rfl⟩)⟩)
end A
end
end Go.Proofs.YtinphfpdfodkkaaGreatDoor
