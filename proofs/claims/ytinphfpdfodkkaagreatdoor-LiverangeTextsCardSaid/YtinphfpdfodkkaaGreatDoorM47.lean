/- Texts of the proof. -/
import Derived.Test.YtinphfpdfodkkaaGreatDoorM40
set_option linter.unusedVariables false
set_option linter.unusedSimpArgs false
set_option maxHeartbeats 8000000
set_option maxRecDepth 100000
namespace Go.Proofs.YtinphfpdfodkkaaGreatDoor
section
open Go.RowKit Go.Sort
namespace A
open H G R
theorem cpy_gone(w0 w:World)(X:Tw)(a:Nat)(deep:Bool)(h:TwIs w0 w X)(n1:a<X.m.length)(hfw:X.m.length<=2000)(hha:has X.m a=false) :
  Calls Tryz.prog 71 #[.pointer (some ⟨X.tb,0,none⟩),.int .i64 (a:Nat),.bool deep] w fun e w'=>e=.returned (.bool true)/\TwIs w0 w' X:=by
 have hl:=h.pos_len;have hb1:=(Below.refl w.heap.size w).alloc (Nat.le_refl _) (.cells #[.pointer (some ⟨X.tb,0,none⟩)] 27);have HX1:=hi_ (Blk.new w #[.pointer (some ⟨X.tb,0,none⟩)] 27);have H1:=hi_ (h.below hb1);have HB1:=hi_ hb1;obtain⟨g,cap,hv,_,hcap,_⟩:=h.toMid.cells hl;have HV:=hi_ hv;have HSm:=hi_ h.sim;have hwl:=hi_ (fun(k:Nat) (hk:X.foot k)=>h.foot_lt hk);clear hb1
 go_enter Tryz.func71,Tryz.ntmps71
 go_upto_region 1 with fail
 generalize w.alloc (.cells #[.pointer (some ⟨X.tb,0,none⟩)] 27)=w1 at *;obtain⟨c0,c1,c2,hlt⟩:=cells3 H1.out.blk;rw[hv]at c2;have hbx:=(cells_of HX1.out).1 0;have hbl:=HX1.out.lt;have hz:=H1.out.toMid.get hv n1;have hgl:=hz.2.2;have hai:(a:Int)<(X.m.length:Int):=by omega
 have ha0:(0:Int)<=(a:Int):=by omega
 have D0:=lc_ c0 hlt;have D2:=lc_ c2 hlt;have DB:=lc_ hbx hbl;have QH:=hi_ (fun(i:Nat) W (hM:ModelMem W X.M)=>mHas X.M i W hM);rw[hv1_gone hha]at hz;have DZ:=fun d:Later w1.heap.size w1=>Later.cell hz.1 hgl d;have QN:=hi_ (fun W (hb:Below w1.heap.size w1 W)=>copy_none X.T (-1) deep W (H1.out.below hb).tree.mem (by omega) (by omega) (ptr_gone H1.out.tree.fits 1));have hh2:has X.M.m a=false:=by rw[<-HSm.out.has];exact hha
 have HH2:=hi_ hh2;clear hha hh2;refine wp_region_mid 12 _ _ (by kernel_rfl) (by kernel_rfl) rfl ?_;simp only[List.take_succ_cons,List.take_zero];repeat (go_big_quiet_step (fail))
 refine wq_ (fun dq=>?_);intro K hK;have HD3:=hi_ dq.h;clear D0 D2 DZ DB c0 c1 c2 hlt hbx hbl hz hgl;generalize dq.w=w3 at *;go_simp
 go_at_call 130
 refine(QN.out w3 HD3.out).mono ?_;rintro e w4 ⟨rfl,hb4⟩;have HB4:=bt_ HD3 hb4;go_simp
 refine hK _ _ (midQ_normal ?_);clear hK K;repeat (go_big_quiet_step (fail))
 refine wq_ (fun dq=>?_);have HB5:=bt_ HB4 dq.h;generalize dq.w=w5 at *;have H5:=hi_ (H1.out.below HB5.out);obtain⟨c0,c1,c2,hlt⟩:=cells3 H5.out.blk;have hbx:=(cells_of (HX1.out.below HB5.out)).1 0;have Q:=hi_ (QH.out a w5 H5.out.model);rw[HH2.out]at Q;go_wp2_with fail
 refine Q.out.mono ?_;rintro e w6 ⟨rfl,rfl⟩;go_wp2_with fail
 refine bodyPost_ret (v:=.bool true) (by simp[results,Tryz.results71,go_sem]) rfl ⟨rfl,H5.out⟩
end A
end
section
open Go.RowKit Go.Sort
namespace A
open H G R
theorem start_twin{w wE:World}{T:TMem}{M:MMem}{tb g:Nat}(hw:Below w.heap.size w wE)(hT:TreeIs wE T [docNode] (fun _=>0))(hM:ModelMem wE M)(hm:M.m=[docNode])(hap:∀k,T.foot k->¬M.foot k)
  (hb:Blk tb #[.pointer (some ⟨T.tb,0,none⟩),.pointer (some ⟨M.mb,0,none⟩),.slice (some ⟨g,0,none⟩) 1 1] 41 wE) (hr:wE.ownsRow w.heap.size 3 1 (.slice (some ⟨g,0,none⟩) 1 1) 1 [.int .i64 T.root])
  (hg:¬T.foot g/\¬M.foot g) (hs:T.slots.length=1) (low:∀k,T.foot k->w.heap.size<=k) (lowM:∀k,M.foot k->w.heap.size<=k) (htb:w.heap.size<=tb) :
  TwIs w wE ⟨T,[docNode],fun _=>0,M,tb,.slice (some ⟨g,0,none⟩) 1 1,w.heap.size⟩:=by
 have hkk:∀k,(Value.slice (some ⟨g,0,none⟩) 1 1).ownBlock=some k->g=k:=fun k hk=>by simpa[Value.ownBlock]using hk
 refine⟨hT,hM,by rw[hm];exact Sim.refl _,hap,hb,?_,fun k hk=>?_,by rw[hs];exact Nat.le_refl _,hw,fun k hk=>?_⟩
 ·have e:intVs (hvs T (fun _=>0) [docNode] [docNode].length)=[.int .i64 T.root]:=by
   rw[hT.fits.root];rfl
  rw[e];exact hr
 ·rw[<-hkk k hk];exact hg
 ·rcases hk with e|e|e|e
  ·rw[e];exact htb
  ·exact low k e
  ·exact lowM k e
  ·exact(World.ownsRow.lt hr k e).1
section
variable {w w2 w3:World} {T:TMem} {M:MMem}
theorem low_tree(h:w.heap.size<=T.g)(h6:∀k,T.freeV.ownBlock=some k->w.heap.size<=k)(h7:w.heap.size<=T.tb)(k:Nat)(hk:T.foot k):w.heap.size<=k:=by
 rcases hk with e|e|e
 ·rw[e];exact h7
 ·rw[e];exact h
 ·exact h6 k e
theorem start_A(HB2:Below w.heap.size w w2)(HT:TreeIs w2 T [docNode] (fun _=>0))(hs:T.slots.length=1)(hl:∀k,T.foot k->w.heap.size<=k)(hb3:Below w2.heap.size w2 w3)(hM:ModelMem w3 M)(hm:M.m=[docNode])(hlow:∀k,M.foot k->w2.heap.size<=k) :
  TwIs w ((w3.alloc (.cells #[.int .i64 T.root] 3)).alloc (.cells #[.pointer (some ⟨T.tb,0,none⟩),.pointer (some ⟨M.mb,0,none⟩),.slice (some ⟨w3.heap.size,0,none⟩) 1 1] 41)) ⟨T,[docNode],fun _=>0,M,w3.heap.size+1,.slice (some ⟨w3.heap.size,0,none⟩) 1 1,w.heap.size⟩:=by
 have h34:=((Below.refl w3.heap.size w3).alloc (Nat.le_refl _) (.cells #[.int .i64 T.root] 3)).alloc (by simp) (.cells #[.pointer (some ⟨T.tb,0,none⟩),.pointer (some ⟨M.mb,0,none⟩),.slice (some ⟨w3.heap.size,0,none⟩) 1 1] 41);have h24:=hb3.trans (h34.mono hb3.size);have z1:=HB2.size;have z2:=hb3.size;refine start_twin (HB2.trans (h24.mono HB2.size)) (HT.below h24) (hM.below h34) hm (fun k hk hMk=>by have:=foot_lt_t HT.mem hk;have:=hlow k hMk;omega) ?_ ?_ ⟨fun e=>by have:=foot_lt_t HT.mem e;omega,fun e=>by have:=R.foot_lt hM e;omega⟩ hs hl (fun k hk=>by have:=hlow k hk;omega) (by omega)
 ·have h1:=Blk.new (w3.alloc (.cells #[.int .i64 T.root] 3)) #[.pointer (some ⟨T.tb,0,none⟩),.pointer (some ⟨M.mb,0,none⟩),.slice (some ⟨w3.heap.size,0,none⟩) 1 1] 41
  rw[World.size_alloc]at h1;exact h1
 ·exact World.ownsRow.alloc (World.ownsRow_lit (e:=3) (base:=w.heap.size) (size:=1) w3 #[.int .i64 T.root] 1 (by omega) (by unfold maxLen;omega) (by simp)) _
theorem start_C(HB2:Below w.heap.size w w2)(HT:TreeIs w2 T [docNode] (fun _=>0))(hs:T.slots.length=1)(hl:∀k,T.foot k->w.heap.size<=k)(hb3:Below (w2.alloc (.cells #[.int .i64 T.root] 3)).heap.size (w2.alloc (.cells #[.int .i64 T.root] 3)) w3)(hM:ModelMem w3 M)(hm:M.m=[docNode])(hlow:∀k,M.foot k->(w2.alloc (.cells #[.int .i64 T.root] 3)).heap.size<=k) :
  TwIs w (w3.alloc (.cells #[.pointer (some ⟨T.tb,0,none⟩),.pointer (some ⟨M.mb,0,none⟩),.slice (some ⟨w2.heap.size,0,none⟩) 1 1] 41)) ⟨T,[docNode],fun _=>0,M,w3.heap.size,.slice (some ⟨w2.heap.size,0,none⟩) 1 1,w.heap.size⟩:=by
 have h34:=(Below.refl w3.heap.size w3).alloc (Nat.le_refl _) (.cells #[.pointer (some ⟨T.tb,0,none⟩),.pointer (some ⟨M.mb,0,none⟩),.slice (some ⟨w2.heap.size,0,none⟩) 1 1] 41);have h2a:=(Below.refl w2.heap.size w2).alloc (Nat.le_refl _) (.cells #[.int .i64 T.root] 3);have h24:=(h2a.trans (hb3.mono h2a.size)).trans (h34.mono (Nat.le_trans h2a.size hb3.size));have z1:=HB2.size;have z2:=hb3.size;have z3:(w2.alloc (.cells #[.int .i64 T.root] 3)).heap.size=w2.heap.size+1:=by simp
 refine start_twin (HB2.trans (h24.mono HB2.size)) (HT.below h24) (hM.below h34) hm (fun k hk hMk=>by have:=foot_lt_t HT.mem hk;have:=hlow k hMk;omega) (Blk.new w3 _ _) ?_ ⟨fun e=>by have:=foot_lt_t HT.mem e;omega,fun e=>by have:=hlow _ e;omega⟩ hs hl (fun k hk=>by have:=hlow k hk;omega) (by omega);have h1:=World.ownsRow_lit (e:=3) (base:=w.heap.size) (size:=1) w2 #[.int .i64 T.root] 1 (by omega) (by unfold maxLen;omega) (by simp);exact own_below (own_below h1 hb3) h34
end
end A
end
section
open Go.RowKit Go.Sort
namespace A
open H G R
theorem start36(b s:Int)(w:World):Calls Tryz.prog 36 #[.agg #[.int .i64 b,.int .i64 s]] w fun e w'=>∃X,e=.returned (.pointer (some ⟨X.tb,0,none⟩))/\TwIs w w' X/\X.m=[docNode]/\X.M.m=[docNode]/\X.T.bs=b/\X.T.st=s:=by
 have hB1:=hi_ ((Below.refl w.heap.size w).alloc (Nat.le_refl _) (.cells #[.int .i64 b,.int .i64 s] 87));have QN:=hi_ (fun W=>new2_ b s W);have QM:=hi_ (fun W=>mNew W)
 go_enter Tryz.func36,Tryz.ntmps36
 go_wp2_with fail
 refine(QN.out _).mono ?_;rintro e w2 ⟨T,rfl,hb2,hT,h1,h2,h3,h4,h5,h6,h7⟩;have HB2:=bt_ hB1 hb2;have HT:=hi_ hT;have HS:=hi_ (⟨h1,h2,h3,h4,h5,h6,h7⟩:_/\_/\_/\_/\_/\_/\_);have hc:=(cells_of hT.mem.blk);have hlt:=hT.mem.blk.lt;have c5:w2.cell? ⟨T.tb,5,none⟩=some (.int .i64 T.root):=hc.1 5;clear hb2 hT h1 h2 h3 h4 h5 h6 h7 hc QN;go_upto_region 2 with fail
 have c5d:w2.drew.cell? ⟨T.tb,5,none⟩=some (.int .i64 T.root):=c5;have hltd:T.tb<w2.drew.heap.size:=hlt;have hA:=(Below.refl w2.drew.heap.size w2.drew).alloc (Nat.le_refl _) (.cells #[.int .i64 T.root] 3);have c5a:=(hA.cell (p:=⟨T.tb,5,none⟩) hltd).trans c5d;have hlta:T.tb<(w2.drew.alloc (.cells #[.int .i64 T.root] 3)).heap.size:=Nat.lt_of_lt_of_le hltd hA.size;have HA:=hi_ hA;have hws:w.heap.size<=(w.alloc (Obj.cells #[.int .i64 b,.int .i64 s] 87)).heap.size:=hB1.out.size;have HSl:Hid (T.slots.length=1/\∀k,T.foot k->w.heap.size<=k):=hi_ ⟨HS.out.2.2.2.1,low_tree (Nat.le_trans hws HS.out.2.2.2.2.1) (fun k hk=>Nat.le_trans hws (HS.out.2.2.2.2.2.1 k hk)) (Nat.le_trans hws HS.out.2.2.2.2.2.2)⟩;have HBs:Hid (T.bs=b/\T.st=s):=hi_ ⟨HS.out.2.1,HS.out.2.2.1⟩
 have HD:Hid (TreeIs w2.drew T [docNode] (fun _=>0)):=hi_ (HT.out.below (Below.refl _ _).drew);clear hA c5 hlt hws
 go_region_with (go_at_call 93;refine(QM.out _).mono ?_;rintro e w3 ⟨M,rfl,hb3,hM,hm,hB,hlow⟩;have k5:w3.cell? ⟨T.tb,5,none⟩=some (.int .i64 T.root):=(by first|exact(hb3.cell (p:=⟨T.tb,5,none⟩) hltd).trans c5d|exact(hb3.cell (p:=⟨T.tb,5,none⟩) hlta).trans c5a);have HP3:=hi_ (⟨hb3,hM,hm,hB,hlow⟩:_/\_/\_/\_/\_);clear hb3 hM hm hB hlow)
 all_goals (go_wp2_with fail)
 rotate_left 2
 focus
  have hX:=start_C (w:=w) (w2:=w2.drew) (w3:=w3) (HB2.out.drew) HD.out HSl.out.1 HSl.out.2 HP3.out.1 HP3.out.2.1 HP3.out.2.2.1 HP3.out.2.2.2.2;exact bodyPost_ret (v:=.pointer (some ⟨w3.heap.size,0,none⟩)) (by simp[results,Tryz.results36,go_sem]) rfl ⟨_,rfl,hX,rfl,HP3.out.2.2.1,HBs.out.1,HBs.out.2⟩
 all_goals
  have hX:=start_A (w:=w) (w2:=w2.drew) (w3:=w3) (HB2.out.drew) HD.out HSl.out.1 HSl.out.2 HP3.out.1 HP3.out.2.1 HP3.out.2.2.1 HP3.out.2.2.2.2;exact bodyPost_ret (v:=.pointer (some ⟨w3.heap.size+1,0,none⟩)) (by simp[results,Tryz.results36,go_sem]) rfl ⟨_,rfl,hX,rfl,HP3.out.2.2.1,HBs.out.1,HBs.out.2⟩
end A
end
end Go.Proofs.YtinphfpdfodkkaaGreatDoor
