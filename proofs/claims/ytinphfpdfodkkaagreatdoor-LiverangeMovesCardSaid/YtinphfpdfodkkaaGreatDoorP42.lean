/- Texts. -/
import Derived.Test.YtinphfpdfodkkaaGreatDoorP37
set_option linter.unusedVariables false
set_option linter.unusedSimpArgs false
set_option maxHeartbeats 8000000
set_option maxRecDepth 100000
namespace Go.Proofs.YtinphfpdfodkkaaGreatDoor
section
open Go.RowKit Go.Sort
namespace A
open H G R
theorem do3_2(w0 w:World)(X:Tw)(o:G.Op)(k:Nat)(h:be_ w0 w X)(hF:Fit w0 X o k)(hk:o.kind % 10=3)(hA:has X.m (o.at_ X.m)=true)(hB:has X.m (o.bt X.m)=false) :
  Calls Tryz.prog 24 #[.pointer (some ⟨X.tb,0,none⟩),opV o] w fun e w'=>i2_ w0 w X o e w':=by
 have hl:=h.pos_len;obtain⟨e1,e2,e3,n1,n2,n3,q1,q2⟩:=cn_ o hl hF.few hF.u8 X.m rfl;have HOV:=di_ o;rw[HOV.out];have ek:Int.tmod (o.kind:Int) 10=3:=by rw[show(10:Int)=((10:Nat):Int)from rfl,<-Int.ofNat_tmod,hk];rfl
 obtain⟨hb1,HO1,HN0⟩:=dh_ w o;have H1:=hi_ (h.below hb1);have HB1:=hi_ hb1;obtain⟨g,cap,hv,_,hcap,_⟩:=h.toMid.cells hl;have HF:=hi_ hF;obtain⟨⟨ha1,ha2,ha3,hfw⟩,⟨wa1,wa2,wa3⟩,wn1,wc1,hn0,hn00,hn1,hn11⟩:=bW_ hF hl;clear hb1 HOV
 go_enter Tryz.func24,Tryz.ntmps24
 obtain⟨c0,c1,c2,hlt⟩:=cells3 H1.out.blk;obtain⟨o0,o1,o2,o3,o4,o5,o6,o7⟩:=a8_ HO1.out;have hlo:=HO1.out.lt;rw[hv]at c2;go_upto_region 2 with fail
 go_quiet (fail)
 rw[jY_ rfl hfw];have H2:=hi_ (H1.out.below (bdN (br_) nq));have HO2:=hi_ (HO1.out.below (bdN (br_) nq));have HB2:=hi_ (bdN HB1.out nq);have HN2:=hi_ (HN0.out nq);clear HN0;clear H1 HO1 HB1 c0 c1 c2 hlt o0 o1 o2 o3 o4 o5 o6 o7 hlo;generalize (w.alloc (.cells #[.int .u8 o.kind,.int .u8 o.a,.int .u8 o.b,.int .u8 o.c,.string ⟨o.s.toArray⟩,.string ⟨o.t.toArray⟩,.int .i8 o.n,.int .i8 o.k] 65)).drewN nq=w2 at *;obtain⟨c0,c1,c2,hlt⟩:=cells3 H2.out.blk;obtain⟨o0,o1,o2,o3,o4,o5,o6,o7⟩:=a8_ HO2.out;have hlo:=HO2.out.lt;rw[hv]at c2;have QH:=hi_ (fun(i:Nat) W (hb:Below w2.heap.size w2 W)=>gf_ X.M i W (H2.out.model.below hb));have HSm:=hi_ h.sim;have HV:=hi_ hv;have hst1:=d8_ (lim:=some 64) (m:=X.m) hk;have hst2:=d8_ (lim:=none) (m:=X.M.m) (o:=o) hk
 have hat:o.at_ X.M.m=o.at_ X.m:=by unfold Op.at_;rw[h.sim.len]
 have hbt:o.bt X.M.m=o.bt X.m:=by unfold Op.bt;rw[h.sim.len]
 have hct:o.ct X.M.m=o.ct X.m:=by unfold Op.ct;rw[h.sim.len]
 have hho:iM_ X.M.m (o.ct X.m)=iM_ X.m (o.ct X.m):=by
  cases o.ct X.m with
  |none=>rfl
  |some i=>exact(h.sim.has i).symm
 rw[hat,hbt,hct,hho,<-h.sim.has,<-h.sim.has]at hst2;obtain⟨a,ha⟩:∃a,a=o.at_ X.m:=⟨_,rfl⟩;obtain⟨b,hb⟩:∃b,b=o.bt X.m:=⟨_,rfl⟩;obtain⟨c,hc⟩:∃c,c=o.ct X.m:=⟨_,rfl⟩;rw[<-ha]at hA;rw[<-hb]at hB;rw[<-ha,<-hb,<-hc]at hst1 hst2;rw[<-ha]at n1 ⊢;rw[<-hb]at n2 ⊢;rw[<-hc]at n3 ⊢;have HSt1:=hi_ hst1;have HSt2:=hi_ hst2;clear hst1 hst2 hat hbt hct hho ha hb hc h hF e1 e2 e3 wa1 wa2 wa3 wn1 wc1 hn0 hn00 hn1 hn11 q1 q2;go_wp2_with fail
 refine(QH.out a w2 (br_)).mono ?_;rintro e w2' ⟨rfl,rfl⟩;rw[<-HSm.out.has];have hza:=H2.out.toMid.get hv n1;have hzb:=H2.out.toMid.get hv n2;have hgl:=hza.2.2;have hai:(a:Int)<(X.m.length:Int):=by omega
 have ha0:(0:Int)<=(a:Int):=by omega
 have hbi:(b:Int)<(X.m.length:Int):=by omega
 have hb0:(0:Int)<=(b:Int):=by omega
 have D0:=lc_ c0 hlt;have D2:=lc_ c2 hlt;have DA:=fun d:Later w2.heap.size w2=>Later.cell hza.1 hgl d;have DB:=fun d:Later w2.heap.size w2=>Later.cell hzb.1 hgl d;have QK:=hi_ (fun W (hb:Below w2.heap.size w2 W)=>cg_ (H2.out.below hb).toMid hl c n3);have hBa:=cP_ H2.out a;have hBb:=cP_ H2.out b;have hBc:=fU_ H2.out c;rw[hA];have Q1:=hi_ (QH.out b w2 (br_));rw[<-HSm.out.has,hB]at Q1;have HR1:Hid (G.step (some 64) X.m o=([],6,X.m)):=hi_ (by rw[HSt1.out];rw[hA,hB];rfl);have HR2:Hid (G.step none X.M.m o=([],6,X.M.m)):=hi_ (by rw[HSt2.out];rw[hA,hB];rfl)
 have QN:=hi_ (fun W (hb:Below w2.heap.size w2 W)=>ee_ X.T (hv1 X.T X.pos X.m b) (hv1 X.T X.pos X.m a) (hvO X c) W (H2.out.below hb).tree.mem (by omega) (by omega) (by omega) (by omega) (by omega) (by omega) (by rw[cj_ hB];exact Or.inl (cG_ H2.out.tree.fits 1)));clear hA hB;go_wp2_with fail
 refine Q1.out.mono ?_;rintro e w2'' ⟨rfl,rfl⟩;go_upto_region 33 with fail
 refine an_ 21 _ _ (by kernel_rfl) (by kernel_rfl) rfl ?_;simp only[List.take_succ_cons,List.take_zero];repeat (go_big_quiet_step ((go_at_call 61;exact Calls.later_same (QK.out _ (Later.h _)))))
 refine wq_ (fun dq=>?_);intro K hK;have HD3:=hi_ dq.h;clear D0 D2 DA DB;generalize dq.w=w3 at *;go_simp
 go_at_call 60
 refine(QN.out w3 HD3.out).mono ?_;rintro e w4 ⟨rfl,hb4⟩;have HB4:=bt_ HD3 hb4;go_simp
 refine hK _ _ (ar_ ?_);clear hK K;repeat (go_big_quiet_step (fail))
 refine wq_ (fun dq=>?_);have HB5:=bt_ HB4 dq.h;generalize dq.w=w5 at *;go_wp2_with fail
 refine bodyPost_ret (v:=.tuple #[.slice none 0 0,.bool true]) (by simp[results,Tryz.results24,go_sem]) rfl ⟨_,_,X,rfl,H2.out.below HB5.out,rfl,rfl,rfl,(fun _ _=>rfl),by rw[HR1.out],by rw[HR2.out],by rw[HR1.out];exact ax_.nil _ _ _ _,fun _ _=>rfl⟩
end A
end
section
open Go.RowKit Go.Sort
namespace A
open H G R
theorem gt_{w wE:World}{T:am_}{M:aF_}{tb g:Nat}(hw:Below w.heap.size w wE)(hT:aj_ wE T [aH_] (fun _=>0))(hM:ab_ wE M)(hm:M.m=[aH_])(hap:∀k,T.foot k->¬M.foot k)
  (hb:Blk tb #[.pointer (some ⟨T.tb,0,none⟩),.pointer (some ⟨M.mb,0,none⟩),.slice (some ⟨g,0,none⟩) 1 1] 41 wE) (hr:wE.ownsRow w.heap.size 3 1 (.slice (some ⟨g,0,none⟩) 1 1) 1 [.int .i64 T.root])
  (hg:¬T.foot g/\¬M.foot g) (hs:T.slots.length=1) (low:∀k,T.foot k->w.heap.size<=k) (lowM:∀k,M.foot k->w.heap.size<=k) (htb:w.heap.size<=tb) :
  be_ w wE ⟨T,[aH_],fun _=>0,M,tb,.slice (some ⟨g,0,none⟩) 1 1,w.heap.size,w,fun _=>False⟩:=by
 have hkk:∀k,(Value.slice (some ⟨g,0,none⟩) 1 1).ownBlock=some k->g=k:=fun k hk=>by simpa[Value.ownBlock]using hk
 refine⟨hT,hM,by rw[hm];exact Sim.refl _,hap,hb,?_,fun k hk=>?_,by rw[hs];exact nl_,hw,fun k hk=>?_,H.Frame.of hw,fun k hk=>Or.inr ?_⟩
 ·have e:bw_ (hvs T (fun _=>0) [aH_] [aH_].length)=[.int .i64 T.root]:=by
   rw[hT.fits.root];rfl
  rw[e];exact hr
 ·rw[<-hkk k hk];exact hg
 ·rcases hk with e|e|e|e
  ·rw[e];exact htb
  ·exact low k e
  ·exact lowM k e
  ·exact(World.ownsRow.lt hr k e).1
 ·rcases hk with e|e|e|e
  ·rw[e];exact htb
  ·exact low k e
  ·exact lowM k e
  ·exact(World.ownsRow.lt hr k e).1
section
variable {w w2 w3:World} {T:am_} {M:aF_}
theorem m5_(h:w.heap.size<=T.g)(h6:∀k,T.freeV.ownBlock=some k->w.heap.size<=k)(h7:w.heap.size<=T.tb)(k:Nat)(hk:T.foot k):w.heap.size<=k:=by
 rcases hk with e|e|e
 ·rw[e];exact h7
 ·rw[e];exact h
 ·exact h6 k e
theorem start_A(HB2:Below w.heap.size w w2)(HT:aj_ w2 T [aH_] (fun _=>0))(hs:T.slots.length=1)(hl:∀k,T.foot k->w.heap.size<=k)(hb3:Below w2.heap.size w2 w3)(hM:ab_ w3 M)(hm:M.m=[aH_])(hlow:∀k,M.foot k->w2.heap.size<=k) :
  be_ w ((w3.alloc (.cells #[.int .i64 T.root] 3)).alloc (.cells #[.pointer (some ⟨T.tb,0,none⟩),.pointer (some ⟨M.mb,0,none⟩),.slice (some ⟨w3.heap.size,0,none⟩) 1 1] 41)) ⟨T,[aH_],fun _=>0,M,w3.heap.size+1,.slice (some ⟨w3.heap.size,0,none⟩) 1 1,w.heap.size,w,fun _=>False⟩:=by
 have h34:=((Below.refl w3.heap.size w3).alloc (nl_) (.cells #[.int .i64 T.root] 3)).alloc (by simp) (.cells #[.pointer (some ⟨T.tb,0,none⟩),.pointer (some ⟨M.mb,0,none⟩),.slice (some ⟨w3.heap.size,0,none⟩) 1 1] 41);have h24:=hb3.trans (h34.mono hb3.size);have z1:=HB2.size;have z2:=hb3.size;refine gt_ (HB2.trans (h24.mono HB2.size)) (HT.below h24) (hM.below h34) hm (fun k hk hMk=>by have:=bB_ HT.mem hk;have:=hlow k hMk;omega) ?_ ?_ ⟨fun e=>by have:=bB_ HT.mem e;omega,fun e=>by have:=R.foot_lt hM e;omega⟩ hs hl (fun k hk=>by have:=hlow k hk;omega) (by omega)
 ·have h1:=Blk.new (w3.alloc (.cells #[.int .i64 T.root] 3)) #[.pointer (some ⟨T.tb,0,none⟩),.pointer (some ⟨M.mb,0,none⟩),.slice (some ⟨w3.heap.size,0,none⟩) 1 1] 41
  rw[World.size_alloc]at h1;exact h1
 ·exact World.ownsRow.alloc (World.ownsRow_lit (e:=3) (base:=w.heap.size) (size:=1) w3 #[.int .i64 T.root] 1 (by omega) (by unfold maxLen;omega) (by simp)) _
theorem start_C(HB2:Below w.heap.size w w2)(HT:aj_ w2 T [aH_] (fun _=>0))(hs:T.slots.length=1)(hl:∀k,T.foot k->w.heap.size<=k)(hb3:Below (w2.alloc (.cells #[.int .i64 T.root] 3)).heap.size (w2.alloc (.cells #[.int .i64 T.root] 3)) w3)(hM:ab_ w3 M)(hm:M.m=[aH_])(hlow:∀k,M.foot k->(w2.alloc (.cells #[.int .i64 T.root] 3)).heap.size<=k) :
  be_ w (w3.alloc (.cells #[.pointer (some ⟨T.tb,0,none⟩),.pointer (some ⟨M.mb,0,none⟩),.slice (some ⟨w2.heap.size,0,none⟩) 1 1] 41)) ⟨T,[aH_],fun _=>0,M,w3.heap.size,.slice (some ⟨w2.heap.size,0,none⟩) 1 1,w.heap.size,w,fun _=>False⟩:=by
 have h34:=(Below.refl w3.heap.size w3).alloc (nl_) (.cells #[.pointer (some ⟨T.tb,0,none⟩),.pointer (some ⟨M.mb,0,none⟩),.slice (some ⟨w2.heap.size,0,none⟩) 1 1] 41);have h2a:=(Below.refl w2.heap.size w2).alloc (nl_) (.cells #[.int .i64 T.root] 3);have h24:=(h2a.trans (hb3.mono h2a.size)).trans (h34.mono (Nat.le_trans h2a.size hb3.size));have z1:=HB2.size;have z2:=hb3.size;have z3:(w2.alloc (.cells #[.int .i64 T.root] 3)).heap.size=w2.heap.size+1:=by simp
 refine gt_ (HB2.trans (h24.mono HB2.size)) (HT.below h24) (hM.below h34) hm (fun k hk hMk=>by have:=bB_ HT.mem hk;have:=hlow k hMk;omega) (Blk.new w3 _ _) ?_ ⟨fun e=>by have:=bB_ HT.mem e;omega,fun e=>by have:=hlow _ e;omega⟩ hs hl (fun k hk=>by have:=hlow k hk;omega) (by omega);have h1:=World.ownsRow_lit (e:=3) (base:=w.heap.size) (size:=1) w2 #[.int .i64 T.root] 1 (by omega) (by unfold maxLen;omega) (by simp);exact own_below (own_below h1 hb3) h34
end
end A
end
section
open Go.RowKit Go.Sort
namespace A
open H G R
theorem start36(b s:Int)(w:World):Calls Tryz.prog 36 #[.agg #[.int .i64 b,.int .i64 s]] w fun e w'=>∃X,e=.returned (.pointer (some ⟨X.tb,0,none⟩))/\be_ w w' X/\X.m=[aH_]/\X.M.m=[aH_]/\X.T.bs=b/\X.T.st=s:=by
 have hB1:=hi_ ((Below.refl w.heap.size w).alloc (nl_) (.cells #[.int .i64 b,.int .i64 s] 87));have QN:=hi_ (fun W=>new2_ b s W);have QM:=hi_ (fun W=>mNew W)
 go_enter Tryz.func36,Tryz.ntmps36
 go_wp2_with fail
 refine(QN.out _).mono ?_;rintro e w2 ⟨T,rfl,hb2,hT,h1,h2,h3,h4,h5,h6,h7⟩;have HB2:=bt_ hB1 hb2;have HT:=hi_ hT;have HS:=hi_ (⟨h1,h2,h3,h4,h5,h6,h7⟩:_/\_/\_/\_/\_/\_/\_);have hc:=(ad_ hT.mem.blk);have hlt:=hT.mem.blk.lt;have c5:w2.cell? ⟨T.tb,5,none⟩=some (.int .i64 T.root):=hc.1 5;clear hb2 hT h1 h2 h3 h4 h5 h6 h7 hc QN;go_upto_region 2 with fail
 have c5d:w2.drew.cell? ⟨T.tb,5,none⟩=some (.int .i64 T.root):=c5;have hltd:T.tb<w2.drew.heap.size:=hlt;have hA:=(Below.refl w2.drew.heap.size w2.drew).alloc (nl_) (.cells #[.int .i64 T.root] 3);have c5a:=(hA.cell (p:=⟨T.tb,5,none⟩) hltd).trans c5d;have hlta:T.tb<(w2.drew.alloc (.cells #[.int .i64 T.root] 3)).heap.size:=Nat.lt_of_lt_of_le hltd hA.size;have HA:=hi_ hA;have hws:w.heap.size<=(w.alloc (Obj.cells #[.int .i64 b,.int .i64 s] 87)).heap.size:=hB1.out.size;have HSl:Hid (T.slots.length=1/\∀k,T.foot k->w.heap.size<=k):=hi_ ⟨HS.out.2.2.2.1,m5_ (Nat.le_trans hws HS.out.2.2.2.2.1) (fun k hk=>Nat.le_trans hws (HS.out.2.2.2.2.2.1 k hk)) (Nat.le_trans hws HS.out.2.2.2.2.2.2)⟩;have HBs:Hid (T.bs=b/\T.st=s):=hi_ ⟨HS.out.2.1,HS.out.2.2.1⟩
 have HD:Hid (aj_ w2.drew T [aH_] (fun _=>0)):=hi_ (HT.out.below (br_).drew);clear hA c5 hlt hws
 go_region_with (go_at_call 93;refine(QM.out _).mono ?_;rintro e w3 ⟨M,rfl,hb3,hM,hm,hB,hlow⟩;have k5:w3.cell? ⟨T.tb,5,none⟩=some (.int .i64 T.root):=(by first|exact(hb3.cell (p:=⟨T.tb,5,none⟩) hltd).trans c5d|exact(hb3.cell (p:=⟨T.tb,5,none⟩) hlta).trans c5a);have HP3:=hi_ (⟨hb3,hM,hm,hB,hlow⟩:_/\_/\_/\_/\_);clear hb3 hM hm hB hlow)
 all_goals (go_wp2_with fail)
 rotate_left 2
 focus
  have hX:=start_C (w:=w) (w2:=w2.drew) (w3:=w3) (HB2.out.drew) HD.out HSl.out.1 HSl.out.2 HP3.out.1 HP3.out.2.1 HP3.out.2.2.1 HP3.out.2.2.2.2;exact bodyPost_ret (v:=.pointer (some ⟨w3.heap.size,0,none⟩)) (by simp[results,Tryz.results36,go_sem]) rfl ⟨_,rfl,hX,rfl,HP3.out.2.2.1,HBs.out.1,HBs.out.2⟩
 all_goals
  have hX:=start_A (w:=w) (w2:=w2.drew) (w3:=w3) (HB2.out.drew) HD.out HSl.out.1 HSl.out.2 HP3.out.1 HP3.out.2.1 HP3.out.2.2.1 HP3.out.2.2.2.2;exact bodyPost_ret (v:=.pointer (some ⟨w3.heap.size+1,0,none⟩)) (by simp[results,Tryz.results36,go_sem]) rfl ⟨_,rfl,hX,rfl,HP3.out.2.2.1,HBs.out.1,HBs.out.2⟩
end A
end
end Go.Proofs.YtinphfpdfodkkaaGreatDoor
