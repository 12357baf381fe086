/- Texts of the proof. -/
import Derived.Test.YtinphfpdfodkkaaGreatDoorM30
set_option linter.unusedVariables false
set_option linter.unusedSimpArgs false
set_option maxHeartbeats 8000000
set_option maxRecDepth 100000
namespace Go.Proofs.YtinphfpdfodkkaaGreatDoor
section
open Go.RowKit Go.Sort
namespace R
open H G A
def CopyS(M:MMem)(X:Nat)(x:G.Node)(aoA:Option Addr)(capA:Nat)(w':World):Prop:=
 w'.cell? ⟨M.mb,0,none⟩=some (.slice (some ⟨M.g,0,none⟩) M.nodes.length M.cap)/\w'.cell? ⟨X,0,none⟩=some (.int .i64 (x.kind:Nat))/\w'.cell? ⟨X,1,none⟩=some (.string ⟨x.name.toArray⟩)/\w'.cell? ⟨X,2,none⟩=some (.slice aoA x.attrs.length capA)/\w'.cell? ⟨X,3,none⟩=some (.string ⟨x.data.toArray⟩)
theorem copyS{M:MMem}{X:Nat}{x:G.Node}{aoA:Option Addr}{capA:Nat}{px kv gv:Value}{w':World}(h1:w'.cell? ⟨M.mb,0,none⟩=some (.slice (some ⟨M.g,0,none⟩) M.nodes.length M.cap))(h:Blk X #[.int .i64 (x.kind:Nat),.string ⟨x.name.toArray⟩,.slice aoA x.attrs.length capA,.string ⟨x.data.toArray⟩,px,kv,gv] 105 w'):CopyS M X x aoA capA w':=by
 obtain⟨⟨k0,k1,k2,k3,_⟩,_⟩:=cells7 h;exact⟨h1,k0,k1,k2,k3⟩
theorem foot_lt{w:World}{M:MMem}(h:ModelMem w M){k:Nat}(hk:M.foot k):k<w.heap.size:=by
 rcases hk with e|e|⟨x,hx,e|e⟩
 ·rw[e];exact h.blk.lt
 ·rw[e];exact(ownsRow_open h.row).1
 ·exact(World.ownsRow.lt (h.kids x hx) k e).2
 ·exact(World.ownsRow.lt (h.attrs x hx) k e).2
theorem parI_nn(p:Nat):parI (some p)=(p:Int):=rfl
theorem mcopy_step(n:Nat)(ih:MCopyOk n):MCopyOk (n+1):=by
 intro B M h par deep w hM hh hB hL hlow hpar hbig hattr hfk;have hhl:h<M.nodes.length:=by omega
 have HM:=hi_ hM;obtain⟨c0,l0,l1⟩:=hM.top;obtain⟨k0,k1,k2,k3,k4,k5,k6⟩:=hM.cell hhl;obtain⟨aoA,capA,hav⟩:=RecRow.slice (hM.attrsRow hhl);obtain⟨aoK,capK,hkv,_⟩:=OwnN.form (hM.kidsRow hhl);have HRa:=hi_ (hM.attrsRow hhl);rw[hav]at k2 HRa;rw[hkv]at k5;have n1:(h:Int)<(M.nodes.length:Int):=by omega
 have n0:(0:Int)<=(h:Int):=by omega
 have hfew:=hM.few;have hla:=hattr h hh;have hlk:(nd M.m h).kids.length<=1000000:=by have:=hfk h;rw[M.m_len]at this;omega
 have HKv:=hi_ hkv;have HLen:Hid (M.nodes.length<100000):=hi_ (by
  have h1:=copyN_keep (n+1) M.m h par deep B (by rw[M.m_len];exact hB) hL hh (fun q hq=>by rw[M.m_len];exact hpar q hq);have h2:(addc M.m (bare (nd M.m h)) par).length<=(copyN (n+1) M.m h par deep).length:=by
   rw[copyN]
   cases deep with
   |false=>exact Nat.le_refl _
   |true=>
    simp only[if_true];refine(fold_keep n M.m.length B (by rw[M.m_len];exact hB) _ _ (fun c hc=>hL h hh c hc) (by rw[addc_len];omega) (hL.of_same (fun i hi=>addc_keep (by rw[M.m_len];exact hB) (fun q hq=>by rw[M.m_len];exact hpar q hq) i hi))).1
  rw[addc_len,M.m_len]at h2
  omega)
 obtain⟨x,hx⟩:∃x:G.Node,x=nd M.m h:=⟨_,rfl⟩;have HX:=hi_ hx;obtain⟨cs,hcs⟩:∃cs:Array Value,cs=#[.int .i64 (x.kind:Nat),.string ⟨x.name.toArray⟩,.slice aoA x.attrs.length capA,.string ⟨x.data.toArray⟩,.int .i64 (parI x.parent),.slice aoK x.kids.length capK,.bool x.gone]:=⟨_,rfl⟩;rw[<-hx]at k0 k1 k2 k3 k4 k5 k6 hla hlk HRa;generalize hpx:parI x.parent=px at *;have hb1:=(Below.refl w.heap.size w).alloc (Nat.le_refl _) (.cells #[.int .i64 (x.kind:Nat),.string ⟨x.name.toArray⟩,.slice aoA x.attrs.length capA,.string ⟨x.data.toArray⟩,.int .i64 px,.slice aoK x.kids.length capK,.bool x.gone] 105);have HX1:=hi_ (Blk.new w #[.int .i64 (x.kind:Nat),.string ⟨x.name.toArray⟩,.slice aoA x.attrs.length capA,.string ⟨x.data.toArray⟩,.int .i64 px,.slice aoK x.kids.length capK,.bool x.gone] 105)
 have HB1:=hi_ hb1;have HS:=hi_ (⟨hh,hB,hL,hlow,hpar,hbig,hattr,hfk⟩:h<B/\B<=M.nodes.length/\Low B M.m/\G.low M.m (n+1) h/\(∀q,par=some q->q<M.nodes.length/\B<=q)/\(copyN (n+1) M.m h par deep).length<=100000/\(∀i,i<B->(nd M.m i).attrs.length<=100000)/\FewK M.m);have IH:=hi_ ih;obtain⟨A0,hA0⟩:∃A0,A0=addc M.m (bare x) par:=⟨_,rfl⟩;have HA0:=hi_ hA0;obtain⟨R,hR⟩:∃R,R=copyN (n+1) M.m h par deep:=⟨_,rfl⟩;have HRr:Hid (R=if deep then x.kids.foldl (fun m' c=>copyN n m' c (some M.nodes.length) true) A0 else A0):=hi_ (by
  rw[hR,hA0,hx,copyN,M.m_len])
 have HRb:Hid (R.length<=100000):=hi_ (by rw[hR];exact hbig);have HAf:Hid (A0.length=M.nodes.length+1/\(∀i,i<B->nd A0 i=nd M.m i)/\FewK A0):=hi_ ⟨by rw[hA0,addc_len,M.m_len],fun i hi=>by rw[hA0];exact addc_keep (by rw[M.m_len];exact hB) (fun q hq=>by rw[M.m_len];exact hpar q hq) i hi,by rw[hA0];exact hfk.addc _ rfl par⟩;rw[<-hR];clear hA0 hR;clear hM hav hkv hh hB hL hlow hpar hbig hattr hfk hb1 hcs hx ih hpx
 go_enter Tryz.func156,Tryz.ntmps156
 go_wp2_with fail
 generalize hw1:w.alloc (.cells #[.int .i64 (x.kind:Nat),.string ⟨x.name.toArray⟩,.slice aoA x.attrs.length capA,.string ⟨x.data.toArray⟩,.int .i64 px,.slice aoK x.kids.length capK,.bool x.gone] 105)=w1 at *;have HM1:=hi_ (HM.out.below HB1.out);have hMl:=HM.out.blk.lt;have hGl:=(ownsRow_open HM.out.row).1;have hs1:=HX1.out.lt;have HRa1:Hid (RecRow acells M.B 143 2 w1 (.slice aoA x.attrs.length capA) x.attrs):=hi_ (own_below HRa.out HB1.out);clear c0 l0 l1 k0 k1 k2 k3 k4 k5 k6 hw1;obtain⟨c0,l0,l1⟩:=HM1.out.top;obtain⟨⟨k0,k1,k2,k3,k4,k5,k6⟩,_⟩:=cells7 HX1.out;have hbb:=HM.out.bb;have hlen:=HLen.out;have hSm:Hid (w.heap.size<w1.heap.size/\M.mb<w.heap.size/\M.g<w.heap.size):=hi_ ⟨hs1,hMl,hGl⟩;obtain⟨i0,hi0,hz0,hz1,hz2⟩:=info_parts infoMAttr
 obtain⟨j0,hj0,hy0,hy1,hy2⟩:=info_parts infoMNode;have HNl:Hid ((x.attrs.flatMap acells).length=x.attrs.length*2):=hi_ (flat_len acells_len _);have HNn:Hid (aoA=none->x.attrs.length=0/\capA=0):=hi_ (fun e=>by
  rcases HRa1.out.2 with⟨h1,h2⟩|⟨g,cap,cur,h1,_⟩
  ·injection h1 with _ h3 h4;exact⟨by omega,by omega⟩
  ·injection h1 with h3 _ _;rw[e]at h3;cases h3)
 have HNc:Hid (∀W',Below w1.heap.size w1 W'->∀ad,aoA=some ad->∀j u,(x.attrs.flatMap acells)[j]?=some u->W'.cell? (ad.add j)=some u):=hi_ (fun W' hb ad e j u hu=>by
  have hr:RecRow acells M.B 143 2 W' (.slice aoA x.attrs.length capA) x.attrs:=own_below HRa1.out hb
  rcases hr.2 with⟨h1,h2⟩|⟨g,cap,cur,h1,_⟩
  ·injection h1 with h3 _ _;rw[e]at h3;cases h3
  ·have hr2:=hr
   unfold RecRow at hr2;rw[h1]at hr2;injection h1 with h3 _ _
   rw[e]at h3;injection h3 with h3
   subst h3;rw[add_at,Nat.zero_add];have hj:j<(x.attrs.flatMap acells).length:=by
    rcases Nat.lt_or_ge j (x.attrs.flatMap acells).length with h2|h2
    ·exact h2
    ·rw[List.getElem?_eq_none h2]at hu;cases hu
   rw[((ownsRow_open hr2).2.2.2 j hj).1,hu])
 go_upto_region 2 with fail
 have HBd:=hi_ (Below.refl w1.heap.size w1).drew;have HSd:Hid (w1.drew.heap.size=w1.heap.size):=hi_ rfl;refine wp_region_flow (CopyS M w.heap.size x aoA capA) 19 [(0,false),(1,false),(2,false),(3,false),(4,false),(5,false),(6,false),(7,false),(8,false),(10,false),(11,false),(13,false),(14,false),(15,false),(9,true),(12,true),(16,false),(17,true),(18,true)] (by kernel_rfl) (by kernel_rfl) (copyS (HM1.out.below HBd.out).top.1 (HX1.out.below HBd.out)) ?_;change wpFlow _ _ _ _ _ _ _ (World.drew w1);generalize World.drew w1=wd at *;iterate 14 (
  refine flow_get _ ?_ rfl (fun _ _ _ h=>h) (by rfl) ?_ ?_
  rotate_left
  focus (
   intro W' hS';obtain⟨s0,s1,s2,s3,s4⟩:=hS';go_simp
   first|done|with_reducible rfl)
  simp only[Act.put,List.setIfInBounds_toArray,List.set_cons_zero,List.set_cons_succ])
 have HMd:=hi_ (HM1.out.below HBd.out);have HXd:=hi_ (HX1.out.below HBd.out);have HRd:Hid (RecRow acells M.B 143 2 wd (.slice aoA x.attrs.length capA) x.attrs):=hi_ (own_below HRa1.out HBd.out);have HOm:=hi_ (World.ownsRow_made (e:=143) (base:=wd.heap.size) (size:=2) wd #[] 0 (Nat.le_refl _) (Nat.zero_le _) rfl);have HD0:=hi_ ((Below.refl wd.heap.size wd).alloc (Nat.le_refl _) (.cells #[] 143));refine flow_do _ rfl (fun K hK=>?_);go_simp
 refine hK _ _ (copyS (HMd.out.below HD0.out).top.1 (HXd.out.below HD0.out)) ?_;clear hK K;try simp only[Act.put,List.setIfInBounds_toArray,List.set_cons_zero,List.set_cons_succ]
 refine flow_do _ rfl (fun K hK=>?_);refine step_append_opt (by rfl) _ _ 103 (by rfl) wd.heap.size 143 i0 _ 2 32 Tryz.underlying103 hi0 hz0 hz1 hz2 rfl (by decide) (.slice (some ⟨wd.heap.size,0,none⟩) 0 0) 0 [] (by rfl) HOm.out aoA x.attrs.length capA (x.attrs.flatMap acells) (by rfl) HNn.out HNl.out (HNc.out _ (HBd.out.trans (HD0.out.mono (by have:=HSd.out;omega)))) (one_acells _) (by unfold maxLen;omega) (by omega) HD0.out.size ?_;intro v1 w5 hown1 hgrow1;rw[Nat.zero_add]at hown1;obtain⟨ao1,cap1,rfl⟩:=own_slice hown1;have HO1:=hi_ hown1;have HD5:=hi_ (HD0.out.grown hgrow1 HD0.out.size (fun k hk=>by simp[Value.ownBlock]at hk;omega));have HM5:=hi_ (HMd.out.below HD5.out);have HX5:=hi_ (HXd.out.below HD5.out)
 have hz5:w1.heap.size<=w5.heap.size:=by have:=HD5.out.size;have:=HSd.out;omega
 clear hown1 hgrow1;refine hK _ _ (copyS HM5.out.top.1 HX5.out) ?_;clear hK K HD0 HOm;try simp only[Act.put,List.setIfInBounds_toArray,List.set_cons_zero,List.set_cons_succ]
 refine flow_get _ ?_ rfl (fun _ _ _ h=>h) (by rfl) ?_ ?_
 rotate_left
 focus (
  intro W' hS';go_simp
  first|done|with_reducible rfl)
 try simp only[Act.put,List.setIfInBounds_toArray,List.set_cons_zero,List.set_cons_succ]
 refine flow_do _ rfl (fun K hK=>?_);go_simp
 have HD6:=hi_ ((Below.refl w5.heap.size w5).alloc (Nat.le_refl _) (.cells #[.int .i64 (x.kind:Nat),.string ⟨x.name.toArray⟩,.slice ao1 x.attrs.length cap1,.string ⟨x.data.toArray⟩,.int .i64 (parI par),.slice none 0 0,.bool false] 105));refine hK _ _ (copyS (HM5.out.below HD6.out).top.1 (HX5.out.below HD6.out)) ?_;clear hK K;try simp only[Act.put,List.setIfInBounds_toArray,List.set_cons_zero,List.set_cons_succ]
 refine flow_do _ rfl (fun K hK=>?_)
 refine step_append_lies _ (by rfl) _ _ 100 (by rfl) M.B 105 j0 _ 7 104 Tryz.underlying100 hj0 hy0 hy1 hy2 rfl (by omega) (.slice (some ⟨M.g,0,none⟩) M.nodes.length M.cap) M.nodes.length (M.nodes.flatMap ncells) (by rfl) (World.ownsRow.alloc HM5.out.row _) ⟨w5.heap.size,0,none⟩ 1 1 [.int .i64 (x.kind:Nat),.string ⟨x.name.toArray⟩,.slice ao1 x.attrs.length cap1,.string ⟨x.data.toArray⟩,.int .i64 (parI par),.slice none 0 0,.bool false] (by rfl) (by rfl) (World.news_of_block (cs:=#[.int .i64 (x.kind:Nat),.string ⟨x.name.toArray⟩,.slice ao1 x.attrs.length cap1,.string ⟨x.data.toArray⟩,.int .i64 (parI par),.slice none 0 0,.bool false]) (t:=105) (fr:=(0,0)) (heap_alloc_new w5 _)) (by simp[Value.oneCell']) (by omega) (by unfold maxLen;omega) (by omega) (by simp;omega) (w5.heap.size+1) (by simp) ?_
 intro gg cap2 w7 hown7 hgrow7 hat7 hlt7;have hF7:H.Frame (fun k=>k=M.g) w5 w7:=H.Frame.grown (S:=fun k=>k=M.g) (Frame.alloc (H.Frame.refl _ w5) _) hgrow7 (fun k hk=>Or.inl (by have hk:some M.g=some k:=hk;injection hk with hk;exact hk.symm));have hb7:=HM5.out.blk.frame hF7 (fun e=>own_not HM5.out.row HM5.out.blk (by decide) (by rw[e];rfl));have HX7:=hi_ (HX5.out.frame hF7 (fun e=>by have:=hSm.out;omega));have d0:=(cells_of hb7).1 0;have m0:=hb7.lt;have g0:=(cells_of hb7).2 0 (by simp);refine hK _ _ (copyS d0 HX7.out) ?_;clear hK K;show wpList _ _ _ _ _ _;simp only[List.drop_succ_cons,List.drop_zero];obtain⟨xN,hxN⟩:∃xN:MNode,xN=⟨{ bare x with parent:=par },.slice ao1 x.attrs.length cap1,.slice none 0 0⟩:=⟨_,rfl⟩;have hA7:RecRow acells w1.heap.size 143 2 w7 xN.av xN.n.attrs:=by
  have h1:=HO1.out;rw[HSd.out]at h1;rw[hxN];exact own_frame h1 hF7 (fun k hk e=>by have h2:=(World.ownsRow.lt h1 k hk).1;have:=hSm.out;omega)
 have hB5:Below w1.heap.size w1 w5:=HBd.out.trans (HD5.out.mono (by have:=HSd.out;omega));have HE:=hi_ (push_end (w0:=w1) (w:=w5) (w':=w7) (M:=M) (x:=xN) (g:=gg) (cap:=cap2) HM5.out hB5 HM1.out hF7 (by omega) (by rw[hxN];exact hown7) (hat7.imp (fun e=>by have e:some M.g=some gg:=e;injection e) (fun e=>by omega)) (by rw[hxN]) (by rw[hxN];rfl) hA7);have HX8:=hi_ (HX7.out.far (show w.heap.size≠M.mb from by have:=hSm.out;omega) 0 (.slice (some ⟨gg,0,none⟩) (M.nodes.length+1) cap2));have HM1m:Hid ((M.app xN gg cap2).m=M.m++[{ bare x with parent:=par }]):=hi_ (by rw[app_m,hxN]);have HM1l:Hid ((M.app xN gg cap2).nodes.length=M.nodes.length+1):=hi_ (app_len M xN gg cap2);have HM1o:Hid (∀j,j<M.nodes.length->(M.app xN gg cap2).at_ j=M.at_ j):=hi_ (fun j hj=>at_app_old hj)
 have HM1g:Hid ((M.app xN gg cap2).g=gg/\(M.app xN gg cap2).cap=cap2/\(M.app xN gg cap2).mb=M.mb):=hi_ ⟨rfl,rfl,rfl⟩;clear hown7 hgrow7 hat7 hF7 hb7 hA7 hB5 HO1 HD5 HM5 HX5 HX7 HMd HXd HRd HBd HSd HNl HNn HNc HRa HRa1 hxN hi0 hz0 hz1 hz2 hj0 hy0 hy1 hy2;generalize M.app xN gg cap2=M1 at *;have HG8:Hid (H.Frame M.foot w1 (w7.setCell ⟨M.mb,0,none⟩ (.slice (some ⟨gg,0,none⟩) (M.nodes.length+1) cap2))/\MLike w1 M M1):=hi_ HE.out.2;have HM8:=hi_ HE.out.1;clear HE
 rcases par with _|p
 focus
  rw[show parI none=(-1:Int)from rfl];go_wp2_with fail
  clear d0 m0 g0;generalize World.setCell w7 ⟨M.mb,0,none⟩ (.slice (some ⟨gg,0,none⟩) (M.nodes.length+1) cap2)=wx at *;have HMa:Hid (M1.m=A0):=hi_ (by rw[HA0.out];exact HM1m.out);have HMo:Hid (∀j,j<B->M1.at_ j=M.at_ j):=hi_ (fun j hj=>HM1o.out j (by have:=HS.out.2.1;omega));have HGx:=HG8;have HXx:=HX8;have HMx:=HM8;clear HG8 HM1o HM1m HM1l HM1g HX8 HM8 HA0;generalize M1=M2 at *
 rotate_left
 focus
  rw[parI_nn p];have hp0:(0:Int)<=(p:Int):=by omega
  have hpl:p<M.nodes.length:=(HS.out.2.2.2.2.1 p rfl).1;have hpB:B<=p:=(HS.out.2.2.2.2.1 p rfl).2;go_wp2_with fail
  clear d0 m0 g0;generalize World.setCell w7 ⟨M.mb,0,none⟩ (.slice (some ⟨gg,0,none⟩) (M.nodes.length+1) cap2)=w8 at *;have hp1:p<M1.nodes.length:=by rw[HM1l.out];omega
  obtain⟨aoP,capP,hvP,_⟩:=OwnN.form (HM8.out.kidsRow hp1);have hndp:nd M1.m p=nd M.m p:=by rw[MMem.nd_at,MMem.nd_at,HM1o.out p hpl]
  have hrP:=HM8.out.kidsRow hp1;have hkP:=(HM8.out.cell hp1).2.2.2.2.2.1;obtain⟨c8,l8,l8'⟩:=HM8.out.top;rw[hvP]at hkP hrP;have hkl:(nd M1.m p).kids.length<=100000:=by rw[hndp];have:=HS.out.2.2.2.2.2.2.2 p;rw[M.m_len]at this;omega
  have HFz8:=hi_ (fun W (hb:ModelMem W M1)=>(RecRow.cell ncells_len hb.row hp1 (k:=5) (by omega)).2);rw[HM1g.out.1]at hkP l8' ;rw[HM1g.out.1,HM1g.out.2.1,HM1g.out.2.2,HM1l.out]at c8;rw[HM1g.out.2.2]at l8;have hpi:(p:Int)<(M.nodes.length:Int)+1:=by omega
  obtain⟨i0,hi0,hz0,hz1,hz2⟩:=info_parts infoInt;generalize hkk:(nd M1.m p).kids=kp at *;have HKk:=hi_ hkk;have HVp:=hi_ hvP;have HRp:=hi_ hrP;generalize hlp:kp.length=lp at *;have HLp:=hi_ hlp;have HNd:=hi_ hndp;have hB8:=HG8.out.1.size;have hsm:=hSm.out;clear hkk hvP hndp hrP hlp;go_upto_region 4 with fail
  refine wp_region_flow (fun w':World=>w'.cell? ⟨M.mb,0,none⟩=some (.slice (some ⟨gg,0,none⟩) (M.nodes.length+1) cap2)/\w'.cell? ⟨gg,p*7+5,none⟩=some (.slice aoP lp capP)) 16 [(0,false),(1,false),(2,false),(3,false),(4,false),(5,false),(6,false),(7,false),(8,false),(9,false),(10,false),(11,false),(12,false),(13,false),(14,true),(15,true)] (by kernel_rfl) (by kernel_rfl) ⟨c8,hkP⟩ ?_;iterate 14 (
   refine flow_get _ ?_ rfl (fun _ _ _ h=>h) (by rfl) ?_ ?_
   rotate_left
   focus (
    intro W' hS';obtain⟨s0,s1⟩:=hS';go_simp
    first|done|with_reducible rfl)
   simp only[Act.put,List.setIfInBounds_toArray,List.set_cons_zero,List.set_cons_succ])
  change wpFlow _ _ _ _ _ _ _ (World.drew w8);obtain⟨wd8,hwd8⟩:∃wd8,wd8=World.drew w8:=⟨_,rfl⟩;have HDr8:Hid (Below w8.heap.size w8 wd8):=hi_ (by rw[hwd8];exact(Below.refl w8.heap.size w8).drew);have HS8:Hid (wd8.heap.size=w8.heap.size):=hi_ (by rw[hwd8];rfl);rw[<-hwd8];clear hwd8;have HM8d:=hi_ (HM8.out.below HDr8.out);have HRd:Hid (wd8.ownsRow M1.B 3 1 (.slice aoP lp capP) lp (natVs kp)):=hi_ (by
   have h1:=own_below HRp.out HDr8.out;unfold OwnN at h1;rw[HLp.out]at h1;exact h1)
  have HDa:=hi_ ((Below.refl wd8.heap.size wd8).alloc (Nat.le_refl _) (.cells #[.int .i64 (M.nodes.length:Nat)] 3));have hfs:∀W,ModelMem W M1->(W.cell? ⟨M.mb,0,none⟩=some (.slice (some ⟨gg,0,none⟩) (M.nodes.length+1) cap2)/\W.cell? ⟨gg,p*7+5,none⟩=some (.slice aoP lp capP)):=fun W hW=>by
   have h1:=hW.top.1;have h2:=(hW.cell hp1).2.2.2.2.2.1;rw[HVp.out]at h2;rw[HM1g.out.1,HM1g.out.2.1,HM1g.out.2.2,HM1l.out]at h1;rw[HM1g.out.1]at h2;exact⟨h1,h2⟩
  have HFs:=hi_ hfs;have hb1l:M1.B<=wd8.heap.size:=by have h1:=HM8d.out.bb;have h2:=HM8d.out.blk.lt;omega
  clear hfs c8 hkP l8 l8';refine flow_do _ rfl (fun K hK=>?_);go_simp
  refine hK _ _ (HFs.out _ (HM8d.out.below HDa.out)) ?_;clear hK K;try simp only[Act.put,List.setIfInBounds_toArray,List.set_cons_zero,List.set_cons_succ]
  refine flow_do _ rfl (fun K hK=>?_);refine step_append_lies _ (by rfl) _ _ 39 (by rfl) M1.B 3 i0 _ 1 8 Tryz.underlying39 hi0 hz0 hz1 hz2 rfl (by decide) (.slice aoP lp capP) lp (natVs kp) (by rfl) (World.ownsRow.alloc HRd.out _) ⟨wd8.heap.size,0,none⟩ 1 1 [.int .i64 (M.nodes.length:Nat)] (by rfl) (by rfl) (World.news_of_block (cs:=#[.int .i64 (M.nodes.length:Nat)]) (t:=3) (fr:=(0,0)) (heap_alloc_new wd8 _)) (by simp[Value.oneCell']) (by omega) (by unfold maxLen;omega) (by omega) (by simp;omega) (wd8.heap.size+1) (by simp) ?_;intro g2 cap3 w9 hown9 hgrow9 hat9 hlt9;have hvo:(M1.at_ p).kv.ownBlock=(Value.slice aoP lp capP).ownBlock:=by rw[HVp.out]
  have hF9:H.Frame (fun k=>(M1.at_ p).kv.ownBlock=some k) wd8 w9:=H.Frame.grown (S:=fun k=>(M1.at_ p).kv.ownBlock=some k) (Frame.alloc (H.Frame.refl _ wd8) _) hgrow9 (fun k hk=>Or.inl (by rw[hvo];exact hk));have HR9:=hi_ (HM8d.out.restK hp1 hF9);have hc9:=(cells_of HR9.out.blk).1 0;have hk9:=(RecRow.cell ncells_len HR9.out.row hp1 (k:=5) (by omega));have hk9':w9.cell? ⟨M1.g,p*7+5,none⟩=some (.slice aoP lp capP):=by
   rw[hk9.1,<-HVp.out,(MMem.at_mem hp1).1];rfl
  have hf9:=hk9.2;have hg9:=(ownsRow_open HR9.out.row).1;have hpK:∀k,(M1.at_ p).kv.ownBlock=some k->M.foot k:=fun k hk=>by
   rw[HM1o.out p hpl]at hk;exact Or.inr (Or.inr ⟨_,(MMem.at_mem hpl).2,Or.inl hk⟩)
  have hg2:M.foot g2\/w1.heap.size<=g2:=hat9.imp (fun e=>hpK g2 (by rw[hvo];exact e)) (fun e=>by have:=HS8.out;omega);have hap:∀j,j<M1.nodes.length->j≠p->∀g,(Value.slice (some ⟨g2,0,none⟩) (lp+1) cap3).ownBlock=some g->(M1.at_ j).kv.ownBlock≠some g:=fun j hj hne g hg e=>by
   have hgg:g2=g:=by simpa[Value.ownBlock]using hg
   subst hgg
   rcases hat9 with h5|h5
   ·exact HM8d.out.kapart p j hp1 hj (fun e2=>hne e2.symm) g2 (by rw[hvo];exact h5) e
   ·have:=(World.ownsRow.lt (HM8d.out.kids _ (MMem.at_mem hj).2) g2 e).2
    omega
  have HP:=hi_ (HR9.out.put hp1 (kv:=.slice (some ⟨g2,0,none⟩) (lp+1) cap3) (kl:=kp++[M.nodes.length]) (by
   unfold OwnN natVs;rw[List.length_append,HLp.out,List.map_append];exact hown9) hap)
  have hggf:M.foot gg\/w1.heap.size<=gg:=HG8.out.2.foot gg (Or.inr (Or.inl HM1g.out.1.symm));have hXg:w.heap.size≠gg:=fun e=>hggf.elim (fun h1=>by have h2:=foot_lt HM.out h1;omega) (fun h1=>by omega);have hXk:¬(M1.at_ p).kv.ownBlock=some w.heap.size:=fun e=>by have h2:=foot_lt HM.out (hpK _ e);omega
  have HX10:=hi_ (((HX8.out.below HDr8.out).frame hF9 hXk).far hXg (p*7+5) (.slice (some ⟨g2,0,none⟩) (lp+1) cap3));have hF10:=hi_ (Frame.set (S:=M.foot) ((HG8.out.1.below_ HDr8.out).trans hF9 (fun b hb=>Or.inl (hpK b hb))) hggf (p*7+5) (.slice (some ⟨g2,0,none⟩) (lp+1) cap3));have HL10:Hid (MLike w1 M (M1.modN p fun x=>{ x with kv:=.slice (some ⟨g2,0,none⟩) (lp+1) cap3,n:={ x.n with kids:=kp++[M.nodes.length] } })):=hi_ ⟨HG8.out.2.mb,HG8.out.2.B,fun k hk=>by
   rcases foot_modN hp1 hk with h1|h1|h1
   ·exact HG8.out.2.foot k h1
   ·have h1:(Value.slice (some ⟨g2,0,none⟩) (lp+1) cap3).ownBlock=some k:=h1
    have hgg:g2=k:=by simpa[Value.ownBlock]using h1
    rw[<-hgg];exact hg2
   ·exact HG8.out.2.foot k (Or.inr (Or.inr ⟨_,(MMem.at_mem hp1).2,Or.inr h1⟩))⟩
  have HMa:Hid ((M1.modN p fun x=>{ x with kv:=.slice (some ⟨g2,0,none⟩) (lp+1) cap3,n:={ x.n with kids:=kp++[M.nodes.length] } }).m=A0):=hi_ (by
   rw[HA0.out];rw[m_modN M1 p _ (fun x=>{ x with kids:=kp++[M.nodes.length] }) (fun x=>rfl)];unfold addc;dsimp only;rw[<-HM1m.out];refine upd_at (by rw[M1.m_len];exact hp1) ?_;rw[HKk.out,M.m_len])
  have HMo:Hid (∀j,j<B->(M1.modN p fun x=>{ x with kv:=.slice (some ⟨g2,0,none⟩) (lp+1) cap3,n:={ x.n with kids:=kp++[M.nodes.length] } }).at_ j=M.at_ j):=hi_ (fun j hj=>by
   rw[at_modN hp1,if_neg (by omega)];exact HM1o.out j (by have:=HS.out.2.1;omega))
  refine hK _ _ ?_ ?_
  ·have h1:=hc9
   rw[HM1g.out.1,HM1g.out.2.1,HM1g.out.2.2,HM1l.out]at h1;exact⟨h1,by rw[<-HM1g.out.1];exact hk9'⟩
  clear hK K;rw[HM1g.out.1]at hk9' hf9 hg9 HP;generalize (M1.modN p fun x=>{ x with kv:=.slice (some ⟨g2,0,none⟩) (lp+1) cap3,n:={ x.n with kids:=kp++[M.nodes.length] } })=M2 at *;clear hown9 hgrow9 hat9 hF9 HR9 hc9 hk9 hpK hap hggf hXg hXk hvo hg2 HRd HDa HFs HVp HRp HKk HLp HNd HFz8 HM8d HDr8 HS8 HM8 HX8;show wpList _ _ _ _ _ _;simp only[List.drop_succ_cons,List.drop_zero];go_wp2_with fail
  generalize World.setCell w9 ⟨gg,p*7+5,none⟩ (.slice (some ⟨g2,0,none⟩) (lp+1) cap3)=wx at *;have HGx:Hid (H.Frame M.foot w1 wx/\MLike w1 M M2):=hi_ ⟨hF10.out,HL10.out⟩;have HXx:=HX10;have HMx:=HP;clear hF10 HL10 HX10 HP HG8 HM1o HM1m HM1l HM1g hp1 hi0 hz0 hz1 hz2 HA0
 all_goals (
  have HDf:Hid (deep=false->(0:Nat)=0):=hi_ (fun _=>rfl)
  go_loopw [10] (fun v10 wr=>∃(i:Nat) (Mi:MMem),v10=.int .i64 (i:Nat)/\i<=x.kids.length/\Hid (deep=false->i=0)/\Hid (ModelMem wr Mi)/\Hid (Mi.m=(x.kids.take i).foldl (fun m' c=>copyN n m' c (some M.nodes.length) true) A0)/\Hid (MLike w1 M Mi)/\Hid (H.Frame M.foot w1 wr)/\Hid (∀j,j<B->Mi.at_ j=M.at_ j)/\Hid (Blk w.heap.size #[.int .i64 (x.kind:Nat),.string ⟨x.name.toArray⟩,.slice aoA x.attrs.length capA,.string ⟨x.data.toArray⟩,.int .i64 px,.slice aoK x.kids.length capK,.bool x.gone] 105 wr)) (fun v10 _=>x.kids.length-(intOfV v10).toNat)
  case atStart=>exact⟨0,M2,rfl,Nat.zero_le _,HDf,HMx,HMa,hi_ HGx.out.2,hi_ HGx.out.1,HMo,HXx⟩
  case round=>
   obtain⟨i,Mi,rfl,hi,HDi,HMi,HMm,HLi,HFi,HAi,HXi⟩:=hrel;obtain⟨⟨_,_,_,_,_,k5,_⟩,_⟩:=cells7 HXi.out;have hlXi:=HXi.out.lt;clear HMx HMa HGx HMo HXx HDf
   cases deep with
   |false=>
    have hi0:i=0:=HDi.out rfl;subst hi0;have HF:Hid (Mi.m=R):=hi_ (by rw[HMm.out,HRr.out];rfl);clear HDi;go_wp2_with fail
    go_end0
    first|exact⟨Mi,rfl,(H.Frame.of (S:=M.foot) HB1.out).trans HFi.out (fun b hb=>Or.inl hb),HMi.out,HF.out,MLike.of_later HLi.out HB1.out.size,HAi.out⟩|exact⟨rfl,(H.Frame.of (S:=M.foot) HB1.out).trans HFi.out (fun b hb=>Or.inl hb),Mi,HMi.out,HF.out,MLike.of_later HLi.out HB1.out.size,HAi.out⟩
   |true=>
    by_cases hlt:i<x.kids.length
    ·have hx:x.kids[i]?=some x.kids[i]:=List.getElem?_eq_getElem hlt
     have hcm:x.kids[i]∈x.kids:=List.getElem_mem hlt;generalize x.kids[i]=c at *;obtain⟨s1,s2,s3,s4,s5,s6,s7,s8⟩:=HS.out;have hks:∀c∈x.kids,c<B:=fun d hd=>s3 h s1 d (by rw[<-HX.out];exact hd);have hLA:Low B A0:=s3.of_same HAf.out.2.1;have hRb:(x.kids.foldl (fun m' c=>copyN n m' c (some M.nodes.length) true) A0).length<=100000:=by have h1:=HRb.out;rw[HRr.out]at h1;exact h1
     obtain⟨t1,t2,t3⟩:=fold_step n (m:=M.m) (N:=100000) s2 hx hks (by rw[HAf.out.1];omega) hLA hRb;rw[<-HMm.out]at t1 t2 t3;have hnd:∀j,j<B->nd Mi.m j=nd M.m j:=fun j hj=>by rw[MMem.nd_at,MMem.nd_at,HAi.out j hj]
     have hll:M.nodes.length<Mi.nodes.length:=by rw[<-Mi.m_len];have:=HAf.out.1;omega
     have hfk:FewK Mi.m:=by
      rw[HMm.out];have hf:∀(l:List Nat) (m':Model),FewK m'->FewK (l.foldl (fun m' c=>copyN n m' c (some M.nodes.length) true) m'):=by
       intro l
       induction l with
       |nil=>exact fun m' h=>h
       |cons c t ih=>exact fun m' h'=>ih _ (FewK.copyN n h' c _ true)
      exact hf _ _ HAf.out.2.2
     have hlow:G.low Mi.m n c:=low_same s3 hnd (hks c hcm) (s4 c (by rw[<-HX.out];exact hcm));have QC:=hi_ (IH.out B Mi c (some M.nodes.length) true wr HMi.out (hks c hcm) (by omega) (s3.of_same hnd) hlow (fun q hq=>by injection hq with e;subst e;exact⟨hll,s2⟩) t2 (fun j hj=>by rw[hnd j hj];exact s7 j hj) hfk);have hrow:=HMi.out.kidsRow (i:=h) (by omega);rw[HAi.out h s1,HKv.out,hnd h s1,<-HX.out]at hrow;obtain⟨ao2,cap2',hv2,hcs⟩:=OwnN.form hrow;obtain⟨gk,hao,hgk,hck⟩:=hcs _ _ hx;injection hv2 with e1 e2 e3
     subst e1;subst hao;have hmbi:=HLi.out.mb;have HMb:=hi_ hmbi;have HT1:=hi_ t1;rw[hmbi]at QC;have hil:(i:Int)<(x.kids.length:Int):=by omega
     have p0:(0:Int)<=(i:Int):=by omega
     have wq:IntKind.i64.wrap ((i:Int)+1)=(i:Int)+1:=IntWalk.i64_in _ (by omega);clear s1 s2 s3 s4 s5 s6 s7 s8 hks hLA hRb t1 t2 t3 hnd hll hfk hlow hrow hcs e2 e3 hx hcm hmbi HDi;go_wp2_with fail
     refine QC.out.mono ?_;rintro e w3 ⟨M3,rfl,hf3,hm3,hm3e,hl3,ha3⟩;have hXn:¬Mi.foot w.heap.size:=fun e=>(HLi.out.foot _ e).elim (fun h1=>by have h2:=foot_lt HM.out h1;omega) (fun h1=>by omega);have HX3:=hi_ (HXi.out.frame hf3 hXn);have HF3:=hi_ (HFi.out.trans hf3 (fun b hb=>HLi.out.foot b hb));have HL3:=hi_ (HLi.out.step hl3 HFi.out.size);have HM3:=hi_ hm3;have HA3:Hid (∀j,j<B->M3.at_ j=M.at_ j):=hi_ (fun j hj=>(ha3 j hj).trans (HAi.out j hj));have HE3:Hid (M3.m=(x.kids.take (i+1)).foldl (fun m' c=>copyN n m' c (some M.nodes.length) true) A0):=hi_ (by rw[hm3e,HT1.out]);have HDt:Hid (true=false->i+1=0):=hi_ (fun e=>by cases e);clear hf3 hm3 hm3e hl3 ha3 hXn QC;go_wp2_with fail
     go_roundw
     case rel=>exact⟨i+1,M3,by go_num,by omega,HDt,HM3,HE3,HL3,HF3,HA3,HX3⟩
     case measure=>simp[intOfV];omega
    ·have hie:i=x.kids.length:=by omega
     have HF:Hid (Mi.m=R):=hi_ (by rw[HMm.out,HRr.out,hie,List.take_length];rfl);have hnl:¬(i:Int)<(x.kids.length:Int):=by omega
     clear HDi hie;go_wp2_with fail
     go_end0
     first|exact⟨Mi,rfl,(H.Frame.of (S:=M.foot) HB1.out).trans HFi.out (fun b hb=>Or.inl hb),HMi.out,HF.out,MLike.of_later HLi.out HB1.out.size,HAi.out⟩|exact⟨rfl,(H.Frame.of (S:=M.foot) HB1.out).trans HFi.out (fun b hb=>Or.inl hb),Mi,HMi.out,HF.out,MLike.of_later HLi.out HB1.out.size,HAi.out⟩)
end R
end
end Go.Proofs.YtinphfpdfodkkaaGreatDoor
