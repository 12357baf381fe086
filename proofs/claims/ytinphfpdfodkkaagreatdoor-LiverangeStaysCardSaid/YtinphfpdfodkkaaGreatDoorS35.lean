/- Texts. -/
import Derived.Test.YtinphfpdfodkkaaGreatDoorS34
set_option linter.unusedVariables false
set_option linter.unusedSimpArgs false
set_option maxHeartbeats 8000000
set_option maxRecDepth 100000
namespace Go.Proofs.YtinphfpdfodkkaaGreatDoor
section
open Go.RowKit Go.Sort
namespace A
open H G R
theorem do012(w0 w:World)(X:Tw)(o:G.Op)(k:Nat)(h:bu_ w0 w X)(hF:Fit w0 X o k)(hk:o.kind % 10<3) :
  Calls Tryz.prog 24 #[.pointer (some ⟨X.tb,0,none⟩),opV o] w fun e w'=>jB_ w0 w X o e w':=by
 have hl:=h.pos_len;obtain⟨e1,e2,e3,n1,n2,n3,q1,q2⟩:=cv_ o hl hF.few hF.u8 X.m rfl;have HOV:=ds_ o;rw[HOV.o];obtain⟨hb1,HO1,HN0⟩:=dr_ w o;have H1:=hi_ (h.below hb1);have HB1:=hi_ hb1;obtain⟨g,cap,hv,_,hcap,_⟩:=h.toMid.cells hl;have HF:=hi_ hF;obtain⟨⟨ha1,ha2,ha3,hfw⟩,⟨wa1,wa2,wa3⟩,wn1,wc1,hn0,hn00,hn1,hn11⟩:=bZ_ hF hl;have hs40:=hF.s40;have ht40:=hF.t40;have hn8:=hF.n8;have hlM:X.M.nodes.length<100000:=by rw[<-X.M.m_len,<-h.sim.len];omega
 clear hb1 HOV
 go_enter Tryz.func24,Tryz.ntmps24
 obtain⟨c0,c1,c2,hlt⟩:=cells3 H1.o.blk;obtain⟨o0,o1,o2,o3,o4,o5,o6,o7⟩:=bf_ HO1.o;have hlo:=HO1.o.lt;rw[hv]at c2;go_upto_region 2 with fail
 go_quiet (fail)
 rw[kC_ rfl hfw];have H2:=hi_ (H1.o.below (bdN (br_) nq));have HO2:=hi_ (HO1.o.below (bdN (br_) nq));have HB2:=hi_ (bdN HB1.o nq);have HN2:=hi_ (HN0.o nq);clear HN0;clear H1 HO1 HB1 c0 c1 c2 hlt o0 o1 o2 o3 o4 o5 o6 o7 hlo;generalize (w.alloc (.cells #[.int .u8 o.kind,.int .u8 o.a,.int .u8 o.b,.int .u8 o.c,.string ⟨o.s.toArray⟩,.string ⟨o.t.toArray⟩,.int .i8 o.n,.int .i8 o.k] 65)).drewN nq=w2 at *;obtain⟨c0,c1,c2,hlt⟩:=cells3 H2.o.blk;obtain⟨o0,o1,o2,o3,o4,o5,o6,o7⟩:=bf_ HO2.o;have hlo:=HO2.o.lt;rw[hv]at c2;have QH:=hi_ (fun(i:Nat) W (hb:Below w2.heap.size w2 W)=>hv_ X.M i W (H2.o.model.below hb))
 have HNf:Hd (¬X.T.foot w.heap.size/\¬X.M.foot w.heap.size/\X.tb≠w.heap.size):=hi_ ⟨fun e=>by have:=bG_ h.tree.mem e;omega,fun e=>by have:=R.foot_lt h.model e;omega,fun e=>by have:=h.blk.lt;omega⟩;have HSm:=hi_ h.sim;have HV:=hi_ hv;have hst1:=jK_ (lim:=some 64) (m:=X.m) (o:=o) (by omega);have hst2:=jK_ (lim:=none) (m:=X.M.m) (o:=o) (by omega);rw[f3_]at hst1 hst2;have HSt1:=hi_ hst1;have HSt2:=hi_ hst2;obtain⟨a,ha⟩:∃a,a=o.at_ X.m:=⟨_,rfl⟩;rw[<-ha]at n1 ⊢;have hal:o.al=if 0<o.n then[(o.t,o.s),([107],o.t)] else[]:=rfl
 have hall:o.al.length<=60:=by rw[hal];split<;>simp
 have hals:∀x,x∈o.al->x.1.length<=1000/\x.2.length<=1000:=by
  rw[hal]
  split
  ·intro x hx
   rcases List.mem_cons.1 hx with e|hx
   ·rw[e];exact⟨by show o.t.length<=1000;omega,by show o.s.length<=1000;omega⟩
   rw[List.mem_singleton.1 hx];exact⟨by simp,by show o.t.length<=1000;omega⟩
  intro x hx;cases hx
 have HAl:=hi_ hal;have hQN:∀(kk:Nat),kk<3->∀(av:Value) (W:World),Below w2.heap.size w2 W->aw_ W av o.al->Calls Tryz.prog 58 #[.pointer (some ⟨X.T.tb,0,none⟩),.int .i64 ((2+kk:Nat):Int),.string ⟨o.s.toArray⟩,.string ⟨o.t.toArray⟩,av] W fun e w'=>nt_ W X.T X.m X.pos e w' ((made (2+kk) o.s o.t o.al).map (fun x=>X.m++[x])):=fun kk hkk av W hb hat=>by
  rw[<-f3_]
  match kk,hkk with
  |0,_=>exact n2_ X.T X.m X.pos o.s o.t av o.al W (H2.o.below hb).tree (by omega) H2.o.slots (by omega) hat hall hals (HF.o.tabs.below (H2.o.below hb).bel)
  |1,_=>exact j0_ X.T X.m X.pos 3 o.s o.t av o.al W (H2.o.below hb).tree (by omega) H2.o.slots (by omega) (by omega) (HF.o.tabs.below (H2.o.below hb).bel)
  |2,_=>exact j0_ X.T X.m X.pos 4 o.s o.t av o.al W (H2.o.below hb).tree (by omega) H2.o.slots (by omega) (by omega) (HF.o.tabs.below (H2.o.below hb).bel)
 have hQM:∀(kk:Nat),kk<3->∀(av2:Value) (W:World),ac_ W X.M->ab_ aj_ w.heap.size 143 2 W av2 o.al->Calls Tryz.prog 59 #[.pointer (some ⟨X.M.mb,0,none⟩),.int .i64 ((2+kk:Nat):Int),.string ⟨o.s.toArray⟩,.string ⟨o.t.toArray⟩,av2] W fun e w'=>jy_ W X.M e w' ((made (2+kk) o.s o.t o.al).map (fun x=>X.M.m++[x])):=fun kk hkk av2 W hM hat2=>by
  rw[<-f3_];have e9:∀q,2<q->make X.M.m q o.s o.t []=make X.M.m q o.s o.t o.al:=fun q hq=>by unfold make;rw[if_neg (by omega),if_neg (by omega)]
  match kk,hkk with
  |0,_=>exact mg_ X.M o.s o.t av2 o.al w.heap.size W hM hat2 hall hals (by omega) hlM
  |1,_=>have h9:=ia_ X.M 3 o.s o.t W hM (by omega) (by omega) (by omega) hlM av2;rw[e9 3 (by omega)]at h9;exact h9
  |2,_=>have h9:=ia_ X.M 4 o.s o.t W hM (by omega) (by omega) (by omega) hlM av2;rw[e9 4 (by omega)]at h9;exact h9
 have ekk:Int.tmod (o.kind:Int) 10=((o.kind % 10:Nat):Int):=by rw[show(10:Int)=((10:Nat):Int)from rfl,<-Int.ofNat_tmod]
 have hD:(Int.tmod (o.kind:Int) 10=0/\o.kind % 10=0)\/(Int.tmod (o.kind:Int) 10=1/\o.kind % 10=1)\/(Int.tmod (o.kind:Int) 10=2/\o.kind % 10=2):=by rw[ekk];omega
 have QN:=hi_ (hQN (o.kind % 10) hk);have QM:=hi_ (hQM (o.kind % 10) hk);have HXg0:=hi_ (fun x (hx:made (2+o.kind % 10) o.s o.t o.al=some x)=>mf_ hx);obtain⟨md,hmd0⟩:∃md,md=made (2+o.kind % 10) o.s o.t o.al:=⟨_,rfl⟩;rw[<-hmd0]at QN QM HXg0 HSt1 HSt2;clear hQN hQM ekk hk hmd0;clear hst1 hst2 ha h hF e1 e2 e3 wa1 wa2 wa3 wn1 wc1 hn0 hn00 hn1 hn11 q1 q2 hal hall hals
 rcases hD with⟨ek,ek2⟩|⟨ek,ek2⟩|⟨ek,ek2⟩
 all_goals (
  rw[ek2]at QN QM;clear ek2;go_wp2_with fail
  refine(QH.o a w2 (br_)).mono ?_;rintro e w2' ⟨rfl,rfl⟩;generalize has X.M.m a=hh at *
  rcases Int.lt_or_le 0 o.n with hN|hN
  focus
   have HA2:Hd (o.al=[(o.t,o.s),([107],o.t)]):=hi_ (by rw[HAl.o,if_pos hN]);have hr1:=World.ownsRow_lit (e:=142) (base:=0) (size:=2) w2 #[.string ⟨o.t.toArray⟩,.string ⟨o.s.toArray⟩,.string ⟨#[107]⟩,.string ⟨o.t.toArray⟩] 2 (Nat.zero_le _) (by unfold maxLen;omega) (by simp);have hr2:=World.ownsRow_lit (e:=143) (base:=w.heap.size) (size:=2) (w2.alloc (.cells #[.string ⟨o.t.toArray⟩,.string ⟨o.s.toArray⟩,.string ⟨#[107]⟩,.string ⟨o.t.toArray⟩] 142)) #[.string ⟨o.t.toArray⟩,.string ⟨o.s.toArray⟩,.string ⟨#[107]⟩,.string ⟨o.t.toArray⟩] 2 (by have:=HB2.o.size;simp;omega) (by unfold maxLen;omega) (by simp);rw[World.size_alloc]at hr2
   have HAt:Hd (aw_ ((w2.alloc (.cells #[.string ⟨o.t.toArray⟩,.string ⟨o.s.toArray⟩,.string ⟨#[107]⟩,.string ⟨o.t.toArray⟩] 142)).alloc (.cells #[.string ⟨o.t.toArray⟩,.string ⟨o.s.toArray⟩,.string ⟨#[107]⟩,.string ⟨o.t.toArray⟩] 143)) (.slice (some ⟨w2.heap.size,0,none⟩) 2 2) o.al):=hi_ (by rw[HA2.o];exact World.ownsRow.alloc hr1 _);have HAu:Hd (ab_ aj_ w.heap.size 143 2 ((w2.alloc (.cells #[.string ⟨o.t.toArray⟩,.string ⟨o.s.toArray⟩,.string ⟨#[107]⟩,.string ⟨o.t.toArray⟩] 142)).alloc (.cells #[.string ⟨o.t.toArray⟩,.string ⟨o.s.toArray⟩,.string ⟨#[107]⟩,.string ⟨o.t.toArray⟩] 143)) (.slice (some ⟨w2.heap.size+1,0,none⟩) 2 2) o.al):=hi_ (by rw[HA2.o];exact hr2)
   have HBB:=hi_ (((Below.refl w2.heap.size w2).alloc (nl_) (.cells #[.string ⟨o.t.toArray⟩,.string ⟨o.s.toArray⟩,.string ⟨#[107]⟩,.string ⟨o.t.toArray⟩] 142)).alloc (by simp) (.cells #[.string ⟨o.t.toArray⟩,.string ⟨o.s.toArray⟩,.string ⟨#[107]⟩,.string ⟨o.t.toArray⟩] 143));clear hr1 hr2 HA2;go_upto_region 25 with fail
   generalize (w2.alloc (.cells #[.string ⟨o.t.toArray⟩,.string ⟨o.s.toArray⟩,.string ⟨#[107]⟩,.string ⟨o.t.toArray⟩] 142)).alloc (.cells #[.string ⟨o.t.toArray⟩,.string ⟨o.s.toArray⟩,.string ⟨#[107]⟩,.string ⟨o.t.toArray⟩] 143)=wB at *;generalize Value.slice (some ⟨w2.heap.size,0,none⟩) 2 2=av at *;generalize Value.slice (some ⟨w2.heap.size+1,0,none⟩) 2 2=au at *;clear hN
  rotate_left
  focus
   have HAt:Hd (aw_ w2 (.slice none 0 0) o.al):=hi_ (by rw[HAl.o,if_neg (by omega)];exact World.ownsRow_nil _ _ _ _);have HAu:Hd (ab_ aj_ w.heap.size 143 2 w2 (.slice none 0 0) o.al):=hi_ (by rw[HAl.o,if_neg (by omega)];exact World.ownsRow_nil _ _ _ _);have HBB:=hi_ (Below.refl w2.heap.size w2);have hN2:¬0<o.n:=by omega
   go_upto_region 25 with fail
   clear hN hN2
  all_goals (
   have H3:=hi_ (H2.o.below HBB.o);have HO3:=hi_ (HO2.o.below HBB.o);have HB3:=bt_ HB2 HBB.o;obtain⟨c0',c1',c2',hlt'⟩:=cells3 H3.o.blk;obtain⟨o0',o1',o2',o3',o4',o5',o6',o7'⟩:=bf_ HO3.o;have hlo':=HO3.o.lt;have D0:=fun d=>Later.cell c0' hlt' d;have P4:=fun d=>Later.cell o4' hlo' d;have P5:=fun d=>Later.cell o5' hlo' d;refine ao_ 10 _ _ (by kernel_rfl) (by kernel_rfl) rfl ?_;simp only[List.take_succ_cons,List.take_zero];repeat (go_big_quiet_step (fail))
   refine wq_ (fun dq=>?_);intro K hK;have HAt4:=hi_ (own_below HAt.o dq.h);have HAu4:Hd (ab_ aj_ w.heap.size 143 2 dq.w _ o.al):=hi_ (own_below HAu.o dq.h);have HO4:=hi_ (HO3.o.below dq.h);have H4:=hi_ (H3.o.below dq.h);have HB4:=bt_ HB3 dq.h;have HW4:=bt_ HBB dq.h;clear D0 P4 P5 c0' c1' c2' hlt' o0' o1' o2' o3' o4' o5' o6' o7' hlo' HAt HAu HO3 H3;generalize dq.w=w3 at *;go_simp
   go_at_call 58
   refine(QN.o _ w3 HW4.o HAt4.o).mono ?_;intro e w4 hmk
   cases md with
   |none=>
    obtain⟨rfl,hb4⟩:=hmk;have HF4:=hi_ (H.Frame.of (S:=X.T.foot) hb4);have HM4:=hi_ (H4.o.mid HF4.o);have HO4b:=hi_ (HO4.o.below hb4);have HAu4b:Hd (ab_ aj_ w.heap.size 143 2 w4 _ o.al):=hi_ (own_below HAu4.o hb4);have HS1:Hd (G.step (some 64) X.m o=([],1,X.m)):=hi_ (by rw[HSt1.o];rfl);have HS2:Hd (G.step none X.M.m o=([],1,X.M.m)):=hi_ (by rw[HSt2.o];rfl);have HT4:=hi_ (H4.o.tree.below hb4);clear hb4;go_simp
    refine hK _ _ (as_ ?_);clear hK K;repeat (go_big_quiet_step (fail))
    refine wq_ (fun dq=>?_);have HD5:=hi_ dq.h;generalize dq.w=w5 at *;have HM5:=hi_ (HM4.o.below HD5.o);have HO5:=hi_ (HO4b.o.below HD5.o);have HAu5:Hd (ab_ aj_ w.heap.size 143 2 w5 _ o.al):=hi_ (own_below HAu4b.o HD5.o);obtain⟨c0',c1',c2',hlt'⟩:=cells3 HM5.o.blk;obtain⟨o0',o1',o2',o3',o4',o5',o6',o7'⟩:=bf_ HO5.o;have hlo':=HO5.o.lt;have D1:=fun d=>Later.cell c1' hlt' d;have P4:=fun d=>Later.cell o4' hlo' d;have P5:=fun d=>Later.cell o5' hlo' d;go_upto_region 27 with fail
    refine ao_ 10 _ _ (by kernel_rfl) (by kernel_rfl) rfl ?_;simp only[List.take_succ_cons,List.take_zero];repeat (go_big_quiet_step (fail))
    refine wq_ (fun dq=>?_);intro K hK;have HD6:=bt_ HD5 dq.h;have HM6:=hi_ (HM5.o.below dq.h);have HAu6:Hd (ab_ aj_ w.heap.size 143 2 dq.w _ o.al):=hi_ (own_below HAu5.o dq.h);clear D1 P4 P5 c0' c1' c2' hlt' o0' o1' o2' o3' o4' o5' o6' o7' hlo' HO5 HO4b HAu5 HAu4b HM5 HD5;generalize dq.w=w6 at *;go_simp
    go_at_call 59
    refine(QM.o _ w6 HM6.o.model HAu6.o).mono ?_;intro e w7 hmm;obtain⟨M7,rfl,hf7,hm7,hme7,hl7⟩:=hmm;have HP7:=hi_ (⟨hf7,hm7,hme7,hl7⟩:_/\_/\_/\_);clear hf7 hm7 hme7 hl7;go_simp
    refine hK _ _ (as_ ?_);clear hK K;repeat (go_big_quiet_step (fail))
    refine wq_ (fun dq=>?_);have HD8:=hi_ dq.h;generalize dq.w=w8 at *;have hX:=H4.o.next (HF4.o.below_ HD6.o) (Goes.refl w3 X.T) (HT4.o.below HD6.o) (HP7.o.1.below_ HD8.o) (HP7.o.2.1.below HD8.o) HP7.o.2.2.2 (by rw[HP7.o.2.2.1];exact H4.o.sim) rfl (fun i=>rfl) (fun i _=>rfl) H4.o.slots;have HX:=hi_ hX;have HMe:Hd (M7.m=X.M.m):=hi_ HP7.o.2.2.1;clear hX QN QM HP7;go_wp2_with fail
    refine bodyPost_ret (v:=.tuple #[.slice none 0 0,.bool true]) (by simp[results,Tryz.results24,go_sem]) rfl ⟨_,_,_,rfl,HX.o,rfl,rfl,rfl,(fun _ _=>rfl),by rw[HS1.o],by rw[HS2.o];exact HMe.o,by rw[HS1.o];exact aD_.nil _ _ _ _,fun _ _=>rfl⟩
   |some x=>
    obtain⟨T4,pos4,rfl,hf4,hg4,ht4,hp4,hs4⟩:=hmk;have HF4:=hi_ hf4;have HM4:=hi_ (H4.o.mid hf4);have HO4b:=hi_ (HO4.o.frame hf4 HNf.o.1);have HAu4b:Hd (ab_ aj_ w.heap.size 143 2 w4 _ o.al):=hi_ (ak_ HAu4.o hf4 (fun g hg=>hV_ HAu4.o H4.o.tree.mem (by decide) (by decide) (by decide) hg));have HS1:Hd (G.step (some 64) X.m o=([],0,X.m++[x])):=hi_ (by rw[HSt1.o];rfl);have HS2:Hd (G.step none X.M.m o=([],0,X.M.m++[x])):=hi_ (by rw[HSt2.o];rfl);have HT4:=hi_ (⟨hg4,ht4,hp4,hs4⟩:_/\_/\_/\_);have HXg:=hi_ (HXg0.o x rfl);have hz0:=aP_ (T:=T4) (pos:=pos4) X.m.length;clear hf4 hg4 ht4 hp4 hs4;go_simp
    refine hK _ _ (as_ ?_);clear hK K;repeat (go_big_quiet_step (fail))
    refine wq_ (fun dq=>?_);have HD5:=hi_ dq.h;generalize dq.w=w5 at *;have HM5:=hi_ (HM4.o.below HD5.o);have HO5:=hi_ (HO4b.o.below HD5.o);have HAu5:Hd (ab_ aj_ w.heap.size 143 2 w5 _ o.al):=hi_ (own_below HAu4b.o HD5.o);obtain⟨c0',c1',c2',hlt'⟩:=cells3 HM5.o.blk;obtain⟨o0',o1',o2',o3',o4',o5',o6',o7'⟩:=bf_ HO5.o;have hlo':=HO5.o.lt;have D1:=fun d=>Later.cell c1' hlt' d;have P4:=fun d=>Later.cell o4' hlo' d;have P5:=fun d=>Later.cell o5' hlo' d;go_upto_region 27 with fail
    refine ao_ 10 _ _ (by kernel_rfl) (by kernel_rfl) rfl ?_;simp only[List.take_succ_cons,List.take_zero];repeat (go_big_quiet_step (fail))
    refine wq_ (fun dq=>?_);intro K hK;have HD6:=bt_ HD5 dq.h;have HM6:=hi_ (HM5.o.below dq.h);have HAu6:Hd (ab_ aj_ w.heap.size 143 2 dq.w _ o.al):=hi_ (own_below HAu5.o dq.h);clear D1 P4 P5 c0' c1' c2' hlt' o0' o1' o2' o3' o4' o5' o6' o7' hlo' HO5 HO4b HAu5 HAu4b HM5 HD5;generalize dq.w=w6 at *;go_simp
    go_at_call 59
    refine(QM.o _ w6 HM6.o.model HAu6.o).mono ?_;intro e w7 hmm;obtain⟨M7,rfl,hf7,hm7,hme7,hl7⟩:=hmm;have HP7:=hi_ (⟨hf7,hm7,hme7,hl7⟩:_/\_/\_/\_);clear hf7 hm7 hme7 hl7;go_simp
    refine hK _ _ (as_ ?_);clear hK K;repeat (go_big_quiet_step (fail))
    refine wq_ (fun dq=>?_);have HD8:=hi_ dq.h;generalize dq.w=w8 at *;have hblk7:=HM6.o.blk.frame HP7.o.1 H4.o.tb_model;have hrow7:=ak_ HM6.o.row HP7.o.1 (fun g hg hS=>(H4.o.hap g hg).2 hS);have HB8:=hi_ (hblk7.below HD8.o);have HR8:=hi_ (own_below hrow7 HD8.o);rw[HV.o]at HR8;obtain⟨c0',c1',c2',hlt'⟩:=cells3 HB8.o;rw[HV.o]at c2';obtain⟨i0,hi0,hq0,hq1,hq2⟩:=info_parts dh_;have hBb:=H4.o.model.bb;have hbX:X.B<=w8.heap.size:=by
     have h1:=(World.ownsRow.lt HR8.o g rfl);omega
    have hdE:hd T4 pos4 X.m.length=hd X.T pos4 X.m.length:=by unfold hd;rw[HT4.o.1.bs,HT4.o.1.st]
    have HNv:=hi_ (hvs_new (x:=x) HT4.o.1.bs HT4.o.1.st HT4.o.2.2.1 HXg.o);rw[hdE]at HNv hz0;clear hdE;have hz1:((hd X.T pos4 X.m.length:Int)==0)=false:=bn_ (by omega);have hz2:¬(hd X.T pos4 X.m.length:Int)=0:=by omega
    have hz3:((hd X.T pos4 X.m.length:Int) != 0)=true:=bne_iff_ne.2 (by omega);clear hblk7 hrow7 QN QM hBb;go_wp2_with (at_builtin;refine wpList_append_lies _ rfl _ _ 39 rfl X.B 3 i0 _ 1 8 Tryz.underlying39 hi0 hq0 hq1 hq2 rfl (by decide) (.slice (some ⟨g,0,none⟩) X.m.length cap) X.m.length (bB_ (hvs X.T X.pos X.m X.m.length)) rfl (World.ownsRow.alloc HR8.o _) ⟨w8.heap.size,0,none⟩ 1 1 [.int .i64 (hd X.T pos4 X.m.length)] rfl rfl (World.news_of_block (cs:=#[.int .i64 (hd X.T pos4 X.m.length)]) (t:=3) (fr:=(0,0)) (heap_alloc_new w8 _)) (by simp[Value.oneCell']) (by omega) ?k1 ?k2 ?k3 (w8.heap.size+1) (by simp) ?_)
    case k1=>unfold maxLen;omega
    case k2=>omega
    case k3=>first|omega|(rw[World.size_alloc];omega)
    intro gg cap2 w9 hown9 hgrow9 hat9 hlt9;have hF9:H.Frame (fun k=>X.hv.ownBlock=some k\/k=X.tb) w8 w9:=H.Frame.grown (S:=fun k=>X.hv.ownBlock=some k\/k=X.tb) (Frame.alloc (H.Frame.refl _ w8) _) hgrow9 (fun k hk=>Or.inl (Or.inl (by rw[HV.o];exact hk)));have hb9:Blk X.tb #[.pointer (some ⟨X.T.tb,0,none⟩),.pointer (some ⟨X.M.mb,0,none⟩),.slice (some ⟨g,0,none⟩) X.m.length cap] 41 w9:=by
     have h1:=HB8.o;rw[HV.o]at h1;exact h1.frame (S:=fun k=>(Value.slice (some ⟨g,0,none⟩) X.m.length cap).ownBlock=some k) (H.Frame.grown (S:=fun k=>(Value.slice (some ⟨g,0,none⟩) X.m.length cap).ownBlock=some k) (Frame.alloc (H.Frame.refl _ w8) _) hgrow9 (fun k hk=>Or.inl hk)) (fun e=>H4.o.tb_row (by rw[HV.o];exact e))
    have d2:=(ae_ hb9).1 2;have d3:=(ae_ hb9).2 2 (by simp);have d4:=hb9.lt;have hset:=hb9.set 2 (.slice (some ⟨gg,0,none⟩) (X.m.length+1) cap2);simp only[List.setIfInBounds_toArray,List.set_cons_zero,List.set_cons_succ]at hset;have hrow9:(w9.setCell ⟨X.tb,2,none⟩ (.slice (some ⟨gg,0,none⟩) (X.m.length+1) cap2)).ownsRow X.B 3 1 (.slice (some ⟨gg,0,none⟩) (X.m.length+1) cap2) (X.m++[x]).length (bB_ (hvs T4 pos4 (X.m++[x]) (X.m++[x]).length)):=by
     rw[HNv.o,show(X.m++[x]).length=X.m.length+1 by simp];exact bk_ hown9 hb9 (by decide) 2 _
    have hX:=H4.o.more (HF4.o.below_ HD6.o) HT4.o.1 (HT4.o.2.1.below HD6.o) (HP7.o.1.below_ HD8.o) (HP7.o.2.1.below HD8.o) HP7.o.2.2.2 (by rw[HP7.o.2.2.1];exact sim_app H4.o.sim x) (by simp) (fun i hi=>mI_ i hi) HT4.o.2.2.1 HT4.o.2.2.2 (Frame.set hF9 (Or.inl (Or.inr rfl)) 2 _) hset hrow9 (fun k hk=>by
     have hgg:gg=k:=by simpa[Value.ownBlock]using hk
     rw[<-hgg];exact hat9.imp (fun e=>by rw[HV.o];exact e) (fun e=>by omega))
    have HX:=hi_ hX;have HMe:Hd (M7.m=X.M.m++[x]):=hi_ HP7.o.2.2.1;have HTb:Hd (T4.bs=X.T.bs/\T4.st=X.T.st/\∀i,i<X.m.length->pos4 i=X.pos i):=hi_ ⟨HT4.o.1.bs,HT4.o.1.st,HT4.o.2.2.1⟩;clear hX hF9 hb9 hset hrow9 hown9 hgrow9 hat9 HP7 HNv HT4 HF4 HR8 HB8;go_wp2_with fail
    refine bodyPost_ret (v:=.tuple #[.slice none 0 0,.bool true]) (by simp[results,Tryz.results24,go_sem]) rfl ⟨_,_,_,rfl,HX.o,rfl,HTb.o.1,HTb.o.2.1,HTb.o.2.2,by rw[HS1.o],by rw[HS2.o];exact HMe.o,by rw[HS1.o];exact aD_.nil _ _ _ _,fun _ _=>rfl⟩))
end A
end
end Go.Proofs.YtinphfpdfodkkaaGreatDoor
