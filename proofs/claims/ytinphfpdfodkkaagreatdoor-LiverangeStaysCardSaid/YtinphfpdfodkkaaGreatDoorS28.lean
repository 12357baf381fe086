/- Texts. -/
import Derived.Test.YtinphfpdfodkkaaGreatDoorS25
import Derived.Test.YtinphfpdfodkkaaGreatDoorS26
set_option linter.unusedVariables false
set_option linter.unusedSimpArgs false
set_option maxHeartbeats 8000000
set_option maxRecDepth 100000
namespace Go.Proofs.YtinphfpdfodkkaaGreatDoor
section
open Go.RowKit Go.Sort
namespace R
open H G A
def CopyS(M:aJ_)(X:Nat)(x:G.Node)(aoA:Option Addr)(capA:Nat)(w':World):Prop:=
 w'.cell? ⟨M.mb,0,none⟩=some (.slice (some ⟨M.g,0,none⟩) M.nodes.length M.cap)/\w'.cell? ⟨X,0,none⟩=some (.int .i64 x.kind)/\w'.cell? ⟨X,1,none⟩=some (.string ⟨x.name.toArray⟩)/\w'.cell? ⟨X,2,none⟩=some (.slice aoA x.attrs.length capA)/\w'.cell? ⟨X,3,none⟩=some (.string ⟨x.data.toArray⟩)
theorem nc_{M:aJ_}{X:Nat}{x:G.Node}{aoA:Option Addr}{capA:Nat}{px kv gv:Value}{w':World}(h1:w'.cell? ⟨M.mb,0,none⟩=some (.slice (some ⟨M.g,0,none⟩) M.nodes.length M.cap))(h:Blk X #[.int .i64 x.kind,.string ⟨x.name.toArray⟩,.slice aoA x.attrs.length capA,.string ⟨x.data.toArray⟩,px,kv,gv] 105 w'):CopyS M X x aoA capA w':=by
 obtain⟨⟨k0,k1,k2,k3,_⟩,_⟩:=e0_ h;exact⟨h1,k0,k1,k2,k3⟩
theorem foot_lt{w:World}{M:aJ_}(h:ac_ w M){k:Nat}(hk:M.foot k):k<w.heap.size:=by
 rcases hk with e|e|⟨x,hx,e|e⟩
 ·rw[e];exact h.blk.lt
 ·rw[e];exact(ad_ h.row).1
 ·exact(World.ownsRow.lt (h.kids x hx) k e).2
 exact(World.ownsRow.lt (h.attrs x hx) k e).2
theorem i9_(p:Nat):ch_ (some p)=(p:Int):=rfl
theorem kJ_(n:Nat)(ih:jz_ n):jz_ (n+1):=by
 intro B M h par deep w hM hh hB hL hlow hpar hbig hattr hfk;have hhl:h<M.nodes.length:=by omega
 have HM:=hi_ hM;obtain⟨c0,l0,l1⟩:=hM.top;obtain⟨k0,k1,k2,k3,k4,k5,k6⟩:=hM.cell hhl;obtain⟨aoA,capA,hav⟩:=ab_.slice (hM.attrsRow hhl);obtain⟨aoK,capK,hkv,_⟩:=cd_.form (hM.kidsRow hhl);have HRa:=hi_ (hM.attrsRow hhl);rw[hav]at k2 HRa;rw[hkv]at k5;have n1:(h:Int)<(M.nodes.length:Int):=by omega
 have n0:(0:Int)<=(h:Int):=by omega
 have hfew:=hM.few;have hla:=hattr h hh;have hlk:(nd M.m h).kids.length<=1000000:=by have:=hfk h;rw[M.m_len]at this;omega
 have HKv:=hi_ hkv;have HLen:Hd (M.nodes.length<100000):=hi_ (by
  have h1:=cB_ (n+1) M.m h par deep B (by rw[M.m_len];exact hB) hL hh (fun q hq=>by rw[M.m_len];exact hpar q hq);have h2:(addc M.m (bare (nd M.m h)) par).length<=(copyN (n+1) M.m h par deep).length:=by
   rw[copyN]
   cases deep with
   |false=>exact nl_
   |true=>
    simp only[if_true];refine(dQ_ n M.m.length B (by rw[M.m_len];exact hB) _ _ (fun c hc=>hL h hh c hc) (by rw[dg_];omega) (hL.of_same (fun i hi=>iL_ (by rw[M.m_len];exact hB) (fun q hq=>by rw[M.m_len];exact hpar q hq) i hi))).1
  rw[dg_,M.m_len]at h2
  omega)
 obtain⟨x,hx⟩:∃x:G.Node,x=nd M.m h:=⟨_,rfl⟩;have HX:=hi_ hx;obtain⟨cs,hcs⟩:∃cs:Array Value,cs=#[.int .i64 x.kind,.string ⟨x.name.toArray⟩,.slice aoA x.attrs.length capA,.string ⟨x.data.toArray⟩,.int .i64 (ch_ x.parent),.slice aoK x.kids.length capK,.bool x.gone]:=⟨_,rfl⟩;rw[<-hx]at k0 k1 k2 k3 k4 k5 k6 hla hlk HRa;generalize hpx:ch_ x.parent=px at *;have hb1:=(Below.refl w.heap.size w).alloc (nl_) (.cells #[.int .i64 x.kind,.string ⟨x.name.toArray⟩,.slice aoA x.attrs.length capA,.string ⟨x.data.toArray⟩,.int .i64 px,.slice aoK x.kids.length capK,.bool x.gone] 105);have HX1:=hi_ (Blk.new w #[.int .i64 x.kind,.string ⟨x.name.toArray⟩,.slice aoA x.attrs.length capA,.string ⟨x.data.toArray⟩,.int .i64 px,.slice aoK x.kids.length capK,.bool x.gone] 105);have HB1:=hi_ hb1
 have HS:=hi_ (⟨hh,hB,hL,hlow,hpar,hbig,hattr,hfk⟩:h<B/\B<=M.nodes.length/\Low B M.m/\G.low M.m (n+1) h/\(∀q,par=some q->q<M.nodes.length/\B<=q)/\(copyN (n+1) M.m h par deep).length<=100000/\(∀i,i<B->(nd M.m i).attrs.length<=100000)/\gv_ M.m);have IH:=hi_ ih;obtain⟨A0,hA0⟩:∃A0,A0=addc M.m (bare x) par:=⟨_,rfl⟩;have HA0:=hi_ hA0;obtain⟨R,hR⟩:∃R,R=copyN (n+1) M.m h par deep:=⟨_,rfl⟩;have HRr:Hd (R=if deep then x.kids.foldl (fun m' c=>copyN n m' c (some M.nodes.length) true) A0 else A0):=hi_ (by
  rw[hR,hA0,hx,copyN,M.m_len])
 have HRb:Hd (R.length<=100000):=hi_ (by rw[hR];exact hbig);have HAf:Hd (A0.length=M.nodes.length+1/\(∀i,i<B->nd A0 i=nd M.m i)/\gv_ A0):=hi_ ⟨by rw[hA0,dg_,M.m_len],fun i hi=>by rw[hA0];exact iL_ (by rw[M.m_len];exact hB) (fun q hq=>by rw[M.m_len];exact hpar q hq) i hi,by rw[hA0];exact hfk.addc _ rfl par⟩;rw[<-hR];clear hA0 hR;clear hM hav hkv hh hB hL hlow hpar hbig hattr hfk hb1 hcs hx ih hpx
 go_enter Tryz.func156,Tryz.ntmps156
 go_wp2_with fail
 generalize hw1:w.alloc (.cells #[.int .i64 x.kind,.string ⟨x.name.toArray⟩,.slice aoA x.attrs.length capA,.string ⟨x.data.toArray⟩,.int .i64 px,.slice aoK x.kids.length capK,.bool x.gone] 105)=w1 at *;have HM1:=hi_ (HM.o.below HB1.o);have hMl:=HM.o.blk.lt;have hGl:=(ad_ HM.o.row).1;have hs1:=HX1.o.lt;have HRa1:Hd (ab_ aj_ M.B 143 2 w1 (.slice aoA x.attrs.length capA) x.attrs):=hi_ (own_below HRa.o HB1.o);clear c0 l0 l1 k0 k1 k2 k3 k4 k5 k6 hw1;obtain⟨c0,l0,l1⟩:=HM1.o.top;obtain⟨⟨k0,k1,k2,k3,k4,k5,k6⟩,_⟩:=e0_ HX1.o;have hbb:=HM.o.bb;have hlen:=HLen.o;have hSm:Hd (w.heap.size<w1.heap.size/\M.mb<w.heap.size/\M.g<w.heap.size):=hi_ ⟨hs1,hMl,hGl⟩;obtain⟨i0,hi0,hz0,hz1,hz2⟩:=info_parts eP_;obtain⟨j0,hj0,hy0,hy1,hy2⟩:=info_parts f8_
 have HNl:Hd ((x.attrs.flatMap aj_).length=x.attrs.length*2):=hi_ (bY_ ar_ _);have HNn:Hd (aoA=none->x.attrs.length=0/\capA=0):=hi_ (fun e=>by
  rcases HRa1.o.2 with⟨h1,h2⟩|⟨g,cap,cur,h1,_⟩
  ·injection h1 with _ h3 h4;exact⟨by omega,by omega⟩
  injection h1 with h3 _ _;rw[e]at h3;cases h3)
 have HNc:Hd (∀W',Below w1.heap.size w1 W'->∀ad,aoA=some ad->∀j u,(x.attrs.flatMap aj_)[j]?=some u->W'.cell? (ad.add j)=some u):=hi_ (fun W' hb ad e j u hu=>by
  have hr:ab_ aj_ M.B 143 2 W' (.slice aoA x.attrs.length capA) x.attrs:=own_below HRa1.o hb
  rcases hr.2 with⟨h1,h2⟩|⟨g,cap,cur,h1,_⟩
  ·injection h1 with h3 _ _;rw[e]at h3;cases h3
  have hr2:=hr;unfold ab_ at hr2;rw[h1]at hr2;injection h1 with h3 _ _
  rw[e]at h3;injection h3 with h3
  subst h3;rw[dK_,Nat.zero_add];have hj:j<(x.attrs.flatMap aj_).length:=by
   rcases Nat.lt_or_ge j (x.attrs.flatMap aj_).length with h2|h2
   ·exact h2
   rw[List.getElem?_eq_none h2]at hu;cases hu
  rw[((ad_ hr2).2.2.2 j hj).1,hu])
 go_upto_region 2 with fail
 have HBd:=hi_ (Below.refl w1.heap.size w1).drew;have HSd:Hd (w1.drew.heap.size=w1.heap.size):=hi_ rfl;refine bH_ (CopyS M w.heap.size x aoA capA) 19 [(0,false),(1,false),(2,false),(3,false),(4,false),(5,false),(6,false),(7,false),(8,false),(10,false),(11,false),(13,false),(14,false),(15,false),(9,true),(12,true),(16,false),(17,true),(18,true)] (by kernel_rfl) (by kernel_rfl) (nc_ (HM1.o.below HBd.o).top.1 (HX1.o.below HBd.o)) ?_;change b4_ _ _ _ _ _ _ _ (World.drew w1);generalize World.drew w1=wd at *;iterate 14 (
  refine cP_ _ ?_ rfl (fun _ _ _ h=>h) (by rfl) ?_ ?_
  rotate_left
  focus (
   intro W' hS';obtain⟨s0,s1,s2,s3,s4⟩:=hS';go_simp
   first|done|with_reducible rfl)
  simp only[Act.put,List.setIfInBounds_toArray,List.set_cons_zero,List.set_cons_succ])
 have HMd:=hi_ (HM1.o.below HBd.o);have HXd:=hi_ (HX1.o.below HBd.o);have HRd:Hd (ab_ aj_ M.B 143 2 wd (.slice aoA x.attrs.length capA) x.attrs):=hi_ (own_below HRa1.o HBd.o);have HOm:=hi_ (World.ownsRow_made (e:=143) (base:=wd.heap.size) (size:=2) wd #[] 0 (nl_) (Nat.zero_le _) rfl);have HD0:=hi_ ((Below.refl wd.heap.size wd).alloc (nl_) (.cells #[] 143));refine co_ _ rfl (fun K hK=>?_);go_simp
 refine hK _ _ (nc_ (HMd.o.below HD0.o).top.1 (HXd.o.below HD0.o)) ?_;clear hK K;try simp only[Act.put,List.setIfInBounds_toArray,List.set_cons_zero,List.set_cons_succ]
 refine co_ _ rfl (fun K hK=>?_);refine aB_ (by rfl) _ _ 103 (by rfl) wd.heap.size 143 i0 _ 2 32 Tryz.underlying103 hi0 hz0 hz1 hz2 rfl (by decide) (.slice (some ⟨wd.heap.size,0,none⟩) 0 0) 0 [] (by rfl) HOm.o aoA x.attrs.length capA (x.attrs.flatMap aj_) (by rfl) HNn.o HNl.o (HNc.o _ (HBd.o.trans (HD0.o.mono (by have:=HSd.o;omega)))) (cw_ _) (by unfold maxLen;omega) (by omega) HD0.o.size ?_;intro v1 w5 hown1 hgrow1;rw[Nat.zero_add]at hown1;obtain⟨ao1,cap1,rfl⟩:=aY_ hown1;have HO1:=hi_ hown1;have HD5:=hi_ (HD0.o.grown hgrow1 HD0.o.size (fun k hk=>by simp[Value.ownBlock]at hk;omega));have HM5:=hi_ (HMd.o.below HD5.o);have HX5:=hi_ (HXd.o.below HD5.o);have hz5:w1.heap.size<=w5.heap.size:=by have:=HD5.o.size;have:=HSd.o;omega
 clear hown1 hgrow1;refine hK _ _ (nc_ HM5.o.top.1 HX5.o) ?_;clear hK K HD0 HOm;try simp only[Act.put,List.setIfInBounds_toArray,List.set_cons_zero,List.set_cons_succ]
 refine cP_ _ ?_ rfl (fun _ _ _ h=>h) (by rfl) ?_ ?_
 rotate_left
 focus (
  intro W' hS';go_simp
  first|done|with_reducible rfl)
 try simp only[Act.put,List.setIfInBounds_toArray,List.set_cons_zero,List.set_cons_succ]
 refine co_ _ rfl (fun K hK=>?_);go_simp
 have HD6:=hi_ ((Below.refl w5.heap.size w5).alloc (nl_) (.cells #[.int .i64 x.kind,.string ⟨x.name.toArray⟩,.slice ao1 x.attrs.length cap1,.string ⟨x.data.toArray⟩,.int .i64 (ch_ par),.slice none 0 0,.bool false] 105));refine hK _ _ (nc_ (HM5.o.below HD6.o).top.1 (HX5.o.below HD6.o)) ?_;clear hK K;try simp only[Act.put,List.setIfInBounds_toArray,List.set_cons_zero,List.set_cons_succ]
 refine co_ _ rfl (fun K hK=>?_)
 refine step_append_lies _ (by rfl) _ _ 100 (by rfl) M.B 105 j0 _ 7 104 Tryz.underlying100 hj0 hy0 hy1 hy2 rfl (by omega) (.slice (some ⟨M.g,0,none⟩) M.nodes.length M.cap) M.nodes.length (M.nodes.flatMap bU_) (by rfl) (World.ownsRow.alloc HM5.o.row _) ⟨w5.heap.size,0,none⟩ 1 1 [.int .i64 x.kind,.string ⟨x.name.toArray⟩,.slice ao1 x.attrs.length cap1,.string ⟨x.data.toArray⟩,.int .i64 (ch_ par),.slice none 0 0,.bool false] (by rfl) (by rfl) (World.news_of_block (cs:=#[.int .i64 x.kind,.string ⟨x.name.toArray⟩,.slice ao1 x.attrs.length cap1,.string ⟨x.data.toArray⟩,.int .i64 (ch_ par),.slice none 0 0,.bool false]) (t:=105) (fr:=(0,0)) (heap_alloc_new w5 _)) (by simp[Value.oneCell']) (by omega) (by unfold maxLen;omega) (by omega) (by simp;omega) (w5.heap.size+1) (by simp) ?_
 intro gg cap2 w7 hown7 hgrow7 hat7 hlt7;have hF7:H.Frame (fun k=>k=M.g) w5 w7:=H.Frame.grown (S:=fun k=>k=M.g) (Frame.alloc (H.Frame.refl _ w5) _) hgrow7 (fun k hk=>Or.inl (by have hk:some M.g=some k:=hk;injection hk with hk;exact hk.symm));have hb7:=HM5.o.blk.frame hF7 (fun e=>ai_ HM5.o.row HM5.o.blk (by decide) (by rw[e];rfl));have HX7:=hi_ (HX5.o.frame hF7 (fun e=>by have:=hSm.out;omega));have d0:=(ae_ hb7).1 0;have m0:=hb7.lt;have g0:=(ae_ hb7).2 0 (by simp);refine hK _ _ (nc_ d0 HX7.o) ?_;clear hK K;show wpList _ _ _ _ _ _;simp only[List.drop_succ_cons,List.drop_zero];obtain⟨xN,hxN⟩:∃xN:b0_,xN=⟨{ bare x with parent:=par },.slice ao1 x.attrs.length cap1,.slice none 0 0⟩:=⟨_,rfl⟩;have hA7:ab_ aj_ w1.heap.size 143 2 w7 xN.av xN.n.attrs:=by
  have h1:=HO1.o;rw[HSd.o]at h1;rw[hxN];exact ak_ h1 hF7 (fun k hk e=>by have h2:=(World.ownsRow.lt h1 k hk).1;have:=hSm.out;omega)
 have hB5:Below w1.heap.size w1 w5:=HBd.o.trans (HD5.o.mono (by have:=HSd.o;omega));have HE:=hi_ (hs_ (w0:=w1) (w:=w5) (w':=w7) (M:=M) (x:=xN) (g:=gg) (cap:=cap2) HM5.o hB5 HM1.o hF7 (by omega) (by rw[hxN];exact hown7) (hat7.imp (fun e=>by have e:some M.g=some gg:=e;injection e) (fun e=>by omega)) (by rw[hxN]) (by rw[hxN];rfl) hA7);have HX8:=hi_ (HX7.o.far (show w.heap.size≠M.mb from by have:=hSm.out;omega) 0 (.slice (some ⟨gg,0,none⟩) (M.nodes.length+1) cap2));have HM1m:Hd ((M.app xN gg cap2).m=M.m++[{ bare x with parent:=par }]):=hi_ (by rw[app_m,hxN]);have HM1l:Hd ((M.app xN gg cap2).nodes.length=M.nodes.length+1):=hi_ (app_len M xN gg cap2);have HM1o:Hd (∀j,j<M.nodes.length->(M.app xN gg cap2).at_ j=M.at_ j):=hi_ (fun j hj=>lq_ hj)
 have HM1g:Hd ((M.app xN gg cap2).g=gg/\(M.app xN gg cap2).cap=cap2/\(M.app xN gg cap2).mb=M.mb):=hi_ ⟨rfl,rfl,rfl⟩;clear hown7 hgrow7 hat7 hF7 hb7 hA7 hB5 HO1 HD5 HM5 HX5 HX7 HMd HXd HRd HBd HSd HNl HNn HNc HRa HRa1 hxN hi0 hz0 hz1 hz2 hj0 hy0 hy1 hy2;generalize M.app xN gg cap2=M1 at *;have HG8:Hd (H.Frame M.foot w1 (w7.setCell ⟨M.mb,0,none⟩ (.slice (some ⟨gg,0,none⟩) (M.nodes.length+1) cap2))/\aO_ w1 M M1):=hi_ HE.o.2;have HM8:=hi_ HE.o.1;clear HE
 rcases par with _|p
 focus
  rw[show ch_ none=(-1:Int)from rfl];go_wp2_with fail
  clear d0 m0 g0;generalize World.setCell w7 ⟨M.mb,0,none⟩ (.slice (some ⟨gg,0,none⟩) (M.nodes.length+1) cap2)=wx at *;have HMa:Hd (M1.m=A0):=hi_ (by rw[HA0.o];exact HM1m.o);have HMo:Hd (∀j,j<B->M1.at_ j=M.at_ j):=hi_ (fun j hj=>HM1o.o j (by have:=HS.o.2.1;omega));have HGx:=HG8;have HXx:=HX8;have HMx:=HM8;clear HG8 HM1o HM1m HM1l HM1g HX8 HM8 HA0;generalize M1=M2 at *
 rotate_left
 focus
  rw[i9_ p];have hp0:(0:Int)<=(p:Int):=by omega
  have hpl:p<M.nodes.length:=(HS.o.2.2.2.2.1 p rfl).1;have hpB:B<=p:=(HS.o.2.2.2.2.1 p rfl).2;go_wp2_with fail
  clear d0 m0 g0;generalize World.setCell w7 ⟨M.mb,0,none⟩ (.slice (some ⟨gg,0,none⟩) (M.nodes.length+1) cap2)=w8 at *;have hp1:p<M1.nodes.length:=by rw[HM1l.o];omega
  obtain⟨aoP,capP,hvP,_⟩:=cd_.form (HM8.o.kidsRow hp1);have hndp:nd M1.m p=nd M.m p:=by rw[aJ_.nd_at,aJ_.nd_at,HM1o.o p hpl]
  have hrP:=HM8.o.kidsRow hp1;have hkP:=(HM8.o.cell hp1).2.2.2.2.2.1;obtain⟨c8,l8,l8'⟩:=HM8.o.top;rw[hvP]at hkP hrP;have hkl:(nd M1.m p).kids.length<=100000:=by rw[hndp];have:=HS.o.2.2.2.2.2.2.2 p;rw[M.m_len]at this;omega
  have HFz8:=hi_ (fun W (hb:ac_ W M1)=>(ab_.cell aV_ hb.row hp1 (k:=5) (by omega)).2);rw[HM1g.o.1]at hkP l8' ;rw[HM1g.o.1,HM1g.o.2.1,HM1g.o.2.2,HM1l.o]at c8;rw[HM1g.o.2.2]at l8;have hpi:(p:Int)<(M.nodes.length:Int)+1:=by omega
  obtain⟨i0,hi0,hz0,hz1,hz2⟩:=info_parts dh_;generalize hkk:(nd M1.m p).kids=kp at *;have HKk:=hi_ hkk;have HVp:=hi_ hvP;have HRp:=hi_ hrP;generalize hlp:kp.length=lp at *;have HLp:=hi_ hlp;have HNd:=hi_ hndp;have hB8:=HG8.o.1.size;have hsm:=hSm.out;clear hkk hvP hndp hrP hlp;go_upto_region 4 with fail
  refine bH_ (fun w':World=>w'.cell? ⟨M.mb,0,none⟩=some (.slice (some ⟨gg,0,none⟩) (M.nodes.length+1) cap2)/\w'.cell? ⟨gg,p*7+5,none⟩=some (.slice aoP lp capP)) 16 [(0,false),(1,false),(2,false),(3,false),(4,false),(5,false),(6,false),(7,false),(8,false),(9,false),(10,false),(11,false),(12,false),(13,false),(14,true),(15,true)] (by kernel_rfl) (by kernel_rfl) ⟨c8,hkP⟩ ?_;iterate 14 (
   refine cP_ _ ?_ rfl (fun _ _ _ h=>h) (by rfl) ?_ ?_
   rotate_left
   focus (
    intro W' hS';obtain⟨s0,s1⟩:=hS';go_simp
    first|done|with_reducible rfl)
   simp only[Act.put,List.setIfInBounds_toArray,List.set_cons_zero,List.set_cons_succ])
  change b4_ _ _ _ _ _ _ _ (World.drew w8);obtain⟨wd8,hwd8⟩:∃wd8,wd8=World.drew w8:=⟨_,rfl⟩;have HDr8:Hd (Below w8.heap.size w8 wd8):=hi_ (by rw[hwd8];exact(Below.refl w8.heap.size w8).drew);have HS8:Hd (wd8.heap.size=w8.heap.size):=hi_ (by rw[hwd8];rfl);rw[<-hwd8];clear hwd8;have HM8d:=hi_ (HM8.o.below HDr8.o);have HRd:Hd (wd8.ownsRow M1.B 3 1 (.slice aoP lp capP) lp (aF_ kp)):=hi_ (by
   have h1:=own_below HRp.o HDr8.o;unfold cd_ at h1;rw[HLp.o]at h1;exact h1)
  have HDa:=hi_ ((Below.refl wd8.heap.size wd8).alloc (nl_) (.cells #[.int .i64 M.nodes.length] 3));have hfs:∀W,ac_ W M1->(W.cell? ⟨M.mb,0,none⟩=some (.slice (some ⟨gg,0,none⟩) (M.nodes.length+1) cap2)/\W.cell? ⟨gg,p*7+5,none⟩=some (.slice aoP lp capP)):=fun W hW=>by
   have h1:=hW.top.1;have h2:=(hW.cell hp1).2.2.2.2.2.1;rw[HVp.o]at h2;rw[HM1g.o.1,HM1g.o.2.1,HM1g.o.2.2,HM1l.o]at h1;rw[HM1g.o.1]at h2;exact⟨h1,h2⟩
  have HFs:=hi_ hfs;have hb1l:M1.B<=wd8.heap.size:=by have h1:=HM8d.o.bb;have h2:=HM8d.o.blk.lt;omega
  clear hfs c8 hkP l8 l8';refine co_ _ rfl (fun K hK=>?_);go_simp
  refine hK _ _ (HFs.o _ (HM8d.o.below HDa.o)) ?_;clear hK K;try simp only[Act.put,List.setIfInBounds_toArray,List.set_cons_zero,List.set_cons_succ]
  refine co_ _ rfl (fun K hK=>?_);refine step_append_lies _ (by rfl) _ _ 39 (by rfl) M1.B 3 i0 _ 1 8 Tryz.underlying39 hi0 hz0 hz1 hz2 rfl (by decide) (.slice aoP lp capP) lp (aF_ kp) (by rfl) (World.ownsRow.alloc HRd.o _) ⟨wd8.heap.size,0,none⟩ 1 1 [.int .i64 M.nodes.length] (by rfl) (by rfl) (World.news_of_block (cs:=#[.int .i64 M.nodes.length]) (t:=3) (fr:=(0,0)) (heap_alloc_new wd8 _)) (by simp[Value.oneCell']) (by omega) (by unfold maxLen;omega) (by omega) (by simp;omega) (wd8.heap.size+1) (by simp) ?_;intro g2 cap3 w9 hown9 hgrow9 hat9 hlt9;have hvo:(M1.at_ p).kv.ownBlock=(Value.slice aoP lp capP).ownBlock:=by rw[HVp.o]
  have hF9:H.Frame (fun k=>(M1.at_ p).kv.ownBlock=some k) wd8 w9:=H.Frame.grown (S:=fun k=>(M1.at_ p).kv.ownBlock=some k) (Frame.alloc (H.Frame.refl _ wd8) _) hgrow9 (fun k hk=>Or.inl (by rw[hvo];exact hk));have HR9:=hi_ (HM8d.o.restK hp1 hF9);have hc9:=(ae_ HR9.o.blk).1 0;have hk9:=(ab_.cell aV_ HR9.o.row hp1 (k:=5) (by omega));have hk9':w9.cell? ⟨M1.g,p*7+5,none⟩=some (.slice aoP lp capP):=by
   rw[hk9.1,<-HVp.o,(aJ_.at_mem hp1).1];rfl
  have hf9:=hk9.2;have hg9:=(ad_ HR9.o.row).1;have hpK:∀k,(M1.at_ p).kv.ownBlock=some k->M.foot k:=fun k hk=>by
   rw[HM1o.o p hpl]at hk;exact Or.inr (Or.inr ⟨_,(aJ_.at_mem hpl).2,Or.inl hk⟩)
  have hg2:M.foot g2\/w1.heap.size<=g2:=hat9.imp (fun e=>hpK g2 (by rw[hvo];exact e)) (fun e=>by have:=HS8.o;omega);have hap:∀j,j<M1.nodes.length->j≠p->∀g,(Value.slice (some ⟨g2,0,none⟩) (lp+1) cap3).ownBlock=some g->(M1.at_ j).kv.ownBlock≠some g:=fun j hj hne g hg e=>by
   have hgg:g2=g:=by simpa[Value.ownBlock]using hg
   subst hgg
   rcases hat9 with h5|h5
   ·exact HM8d.o.kapart p j hp1 hj (fun e2=>hne e2.symm) g2 (by rw[hvo];exact h5) e
   have:=(World.ownsRow.lt (HM8d.o.kids _ (aJ_.at_mem hj).2) g2 e).2;omega
  have HP:=hi_ (HR9.o.put hp1 (kv:=.slice (some ⟨g2,0,none⟩) (lp+1) cap3) (kl:=kp++[M.nodes.length]) (by
   unfold cd_ aF_;rw[List.length_append,HLp.o,List.map_append];exact hown9) hap)
  have hggf:M.foot gg\/w1.heap.size<=gg:=HG8.o.2.foot gg (Or.inr (Or.inl HM1g.o.1.symm));have hXg:w.heap.size≠gg:=fun e=>hggf.elim (fun h1=>by have h2:=foot_lt HM.o h1;omega) (fun h1=>by omega);have hXk:¬(M1.at_ p).kv.ownBlock=some w.heap.size:=fun e=>by have h2:=foot_lt HM.o (hpK _ e);omega
  have HX10:=hi_ (((HX8.o.below HDr8.o).frame hF9 hXk).far hXg (p*7+5) (.slice (some ⟨g2,0,none⟩) (lp+1) cap3));have hF10:=hi_ (Frame.set (S:=M.foot) ((HG8.o.1.below_ HDr8.o).trans hF9 (fun b hb=>Or.inl (hpK b hb))) hggf (p*7+5) (.slice (some ⟨g2,0,none⟩) (lp+1) cap3));have HL10:Hd (aO_ w1 M (M1.modN p fun x=>{ x with kv:=.slice (some ⟨g2,0,none⟩) (lp+1) cap3,n:={ x.n with kids:=kp++[M.nodes.length] } })):=hi_ ⟨HG8.o.2.mb,HG8.o.2.B,fun k hk=>by
   rcases b5_ hp1 hk with h1|h1|h1
   ·exact HG8.o.2.foot k h1
   ·have h1:(Value.slice (some ⟨g2,0,none⟩) (lp+1) cap3).ownBlock=some k:=h1
    have hgg:g2=k:=by simpa[Value.ownBlock]using h1
    rw[<-hgg];exact hg2
   exact HG8.o.2.foot k (Or.inr (Or.inr ⟨_,(aJ_.at_mem hp1).2,Or.inr h1⟩))⟩
  have HMa:Hd ((M1.modN p fun x=>{ x with kv:=.slice (some ⟨g2,0,none⟩) (lp+1) cap3,n:={ x.n with kids:=kp++[M.nodes.length] } }).m=A0):=hi_ (by
   rw[HA0.o];rw[el_ M1 p _ (fun x=>{ x with kids:=kp++[M.nodes.length] }) (fun x=>rfl)];unfold addc;dsimp only;rw[<-HM1m.o];refine jD_ (by rw[M1.m_len];exact hp1) ?_;rw[HKk.o,M.m_len])
  have HMo:Hd (∀j,j<B->(M1.modN p fun x=>{ x with kv:=.slice (some ⟨g2,0,none⟩) (lp+1) cap3,n:={ x.n with kids:=kp++[M.nodes.length] } }).at_ j=M.at_ j):=hi_ (fun j hj=>by
   rw[fh_ hp1,if_neg (by omega)];exact HM1o.o j (by have:=HS.o.2.1;omega))
  refine hK _ _ ?_ ?_
  ·have h1:=hc9
   rw[HM1g.o.1,HM1g.o.2.1,HM1g.o.2.2,HM1l.o]at h1;exact⟨h1,by rw[<-HM1g.o.1];exact hk9'⟩
  clear hK K;rw[HM1g.o.1]at hk9' hf9 hg9 HP;generalize (M1.modN p fun x=>{ x with kv:=.slice (some ⟨g2,0,none⟩) (lp+1) cap3,n:={ x.n with kids:=kp++[M.nodes.length] } })=M2 at *;clear hown9 hgrow9 hat9 hF9 HR9 hc9 hk9 hpK hap hggf hXg hXk hvo hg2 HRd HDa HFs HVp HRp HKk HLp HNd HFz8 HM8d HDr8 HS8 HM8 HX8;show wpList _ _ _ _ _ _;simp only[List.drop_succ_cons,List.drop_zero];go_wp2_with fail
  generalize World.setCell w9 ⟨gg,p*7+5,none⟩ (.slice (some ⟨g2,0,none⟩) (lp+1) cap3)=wx at *;have HGx:Hd (H.Frame M.foot w1 wx/\aO_ w1 M M2):=hi_ ⟨hF10.out,HL10.o⟩;have HXx:=HX10;have HMx:=HP;clear hF10 HL10 HX10 HP HG8 HM1o HM1m HM1l HM1g hp1 hi0 hz0 hz1 hz2 HA0
 all_goals (
  have HDf:Hd (deep=false->(0:Nat)=0):=hi_ (fun _=>rfl)
  go_loopw [10] (fun v10 wr=>∃(i:Nat) (Mi:aJ_),v10=.int .i64 (i:Nat)/\i<=x.kids.length/\Hd (deep=false->i=0)/\Hd (ac_ wr Mi)/\Hd (Mi.m=(x.kids.take i).foldl (fun m' c=>copyN n m' c (some M.nodes.length) true) A0)/\Hd (aO_ w1 M Mi)/\Hd (H.Frame M.foot w1 wr)/\Hd (∀j,j<B->Mi.at_ j=M.at_ j)/\Hd (Blk w.heap.size #[.int .i64 x.kind,.string ⟨x.name.toArray⟩,.slice aoA x.attrs.length capA,.string ⟨x.data.toArray⟩,.int .i64 px,.slice aoK x.kids.length capK,.bool x.gone] 105 wr)) (fun v10 _=>x.kids.length-(a2_ v10).toNat)
  case atStart=>exact⟨0,M2,rfl,Nat.zero_le _,HDf,HMx,HMa,hi_ HGx.o.2,hi_ HGx.o.1,HMo,HXx⟩
  obtain⟨i,Mi,rfl,hi,HDi,HMi,HMm,HLi,HFi,HAi,HXi⟩:=hrel;obtain⟨⟨_,_,_,_,_,k5,_⟩,_⟩:=e0_ HXi.o;have hlXi:=HXi.o.lt;clear HMx HMa HGx HMo HXx HDf
  cases deep with
  |false=>
   have hi0:i=0:=HDi.o rfl;subst hi0;have HF:Hd (Mi.m=R):=hi_ (by rw[HMm.o,HRr.o];rfl);clear HDi;go_wp2_with fail
   go_end0
   first|exact⟨Mi,rfl,(H.Frame.of (S:=M.foot) HB1.o).trans HFi.o (fun b hb=>Or.inl hb),HMi.o,HF.o,aO_.of_later HLi.o HB1.o.size,HAi.o⟩|exact⟨rfl,(H.Frame.of (S:=M.foot) HB1.o).trans HFi.o (fun b hb=>Or.inl hb),Mi,HMi.o,HF.o,aO_.of_later HLi.o HB1.o.size,HAi.o⟩
  |true=>
   by_cases hlt:i<x.kids.length
   ·have hx:x.kids[i]?=some x.kids[i]:=List.getElem?_eq_getElem hlt
    have hcm:x.kids[i]∈x.kids:=List.getElem_mem hlt;generalize x.kids[i]=c at *;obtain⟨s1,s2,s3,s4,s5,s6,s7,s8⟩:=HS.o;have hks:∀c∈x.kids,c<B:=fun d hd=>s3 h s1 d (by rw[<-HX.o];exact hd);have hLA:Low B A0:=s3.of_same HAf.o.2.1;have hRb:(x.kids.foldl (fun m' c=>copyN n m' c (some M.nodes.length) true) A0).length<=100000:=by have h1:=HRb.o;rw[HRr.o]at h1;exact h1
    obtain⟨t1,t2,t3⟩:=mU_ n (m:=M.m) (N:=100000) s2 hx hks (by rw[HAf.o.1];omega) hLA hRb;rw[<-HMm.o]at t1 t2 t3;have hnd:∀j,j<B->nd Mi.m j=nd M.m j:=fun j hj=>by rw[aJ_.nd_at,aJ_.nd_at,HAi.o j hj]
    have hll:M.nodes.length<Mi.nodes.length:=by rw[<-Mi.m_len];have:=HAf.o.1;omega
    have hfk:gv_ Mi.m:=by
     rw[HMm.o];have hf:∀(l:List Nat) (m':aa_),gv_ m'->gv_ (l.foldl (fun m' c=>copyN n m' c (some M.nodes.length) true) m'):=by
      intro l
      induction l with
      |nil=>exact fun m' h=>h
      |cons c t ih=>exact fun m' h'=>ih _ (gv_.copyN n h' c _ true)
     exact hf _ _ HAf.o.2.2
    have hlow:G.low Mi.m n c:=dG_ s3 hnd (hks c hcm) (s4 c (by rw[<-HX.o];exact hcm));have QC:=hi_ (IH.o B Mi c (some M.nodes.length) true wr HMi.o (hks c hcm) (by omega) (s3.of_same hnd) hlow (fun q hq=>by injection hq with e;subst e;exact⟨hll,s2⟩) t2 (fun j hj=>by rw[hnd j hj];exact s7 j hj) hfk);have hrow:=HMi.o.kidsRow (i:=h) (by omega);rw[HAi.o h s1,HKv.o,hnd h s1,<-HX.o]at hrow;obtain⟨ao2,cap2',hv2,hcs⟩:=cd_.form hrow;obtain⟨gk,hao,hgk,hck⟩:=hcs _ _ hx;injection hv2 with e1 e2 e3
    subst e1;subst hao;have hmbi:=HLi.o.mb;have HMb:=hi_ hmbi;have HT1:=hi_ t1;rw[hmbi]at QC;have hil:(i:Int)<(x.kids.length:Int):=by omega
    have p0:(0:Int)<=(i:Int):=by omega
    have wq:IntKind.i64.wrap ((i:Int)+1)=(i:Int)+1:=IntWalk.i64_in _ (by omega);clear s1 s2 s3 s4 s5 s6 s7 s8 hks hLA hRb t1 t2 t3 hnd hll hfk hlow hrow hcs e2 e3 hx hcm hmbi HDi;go_wp2_with fail
    refine QC.o.mono ?_;rintro e w3 ⟨M3,rfl,hf3,hm3,hm3e,hl3,ha3⟩;have hXn:¬Mi.foot w.heap.size:=fun e=>(HLi.o.foot _ e).elim (fun h1=>by have h2:=foot_lt HM.o h1;omega) (fun h1=>by omega);have HX3:=hi_ (HXi.o.frame hf3 hXn);have HF3:=hi_ (HFi.o.trans hf3 (fun b hb=>HLi.o.foot b hb));have HL3:=hi_ (HLi.o.step hl3 HFi.o.size);have HM3:=hi_ hm3;have HA3:Hd (∀j,j<B->M3.at_ j=M.at_ j):=hi_ (fun j hj=>(ha3 j hj).trans (HAi.o j hj));have HE3:Hd (M3.m=(x.kids.take (i+1)).foldl (fun m' c=>copyN n m' c (some M.nodes.length) true) A0):=hi_ (by rw[hm3e,HT1.o]);have HDt:Hd (true=false->i+1=0):=hi_ (fun e=>by cases e);clear hf3 hm3 hm3e hl3 ha3 hXn QC;go_wp2_with fail
    go_roundw
    case rel=>exact⟨i+1,M3,by go_num,by omega,HDt,HM3,HE3,HL3,HF3,HA3,HX3⟩
    simp[a2_];omega
   have hie:i=x.kids.length:=by omega
   have HF:Hd (Mi.m=R):=hi_ (by rw[HMm.o,HRr.o,hie,List.take_length];rfl);have hnl:¬(i:Int)<(x.kids.length:Int):=by omega
   clear HDi hie;go_wp2_with fail
   go_end0
   first|exact⟨Mi,rfl,(H.Frame.of (S:=M.foot) HB1.o).trans HFi.o (fun b hb=>Or.inl hb),HMi.o,HF.o,aO_.of_later HLi.o HB1.o.size,HAi.o⟩|exact⟨rfl,(H.Frame.of (S:=M.foot) HB1.o).trans HFi.o (fun b hb=>Or.inl hb),Mi,HMi.o,HF.o,aO_.of_later HLi.o HB1.o.size,HAi.o⟩)
theorem mc_:∀n,jz_ n
 |0=>fun B M h par deep w _ _ _ _ hlow=>hlow.elim
 |n+1=>kJ_ n (mc_ n)
theorem mCopy(M:aJ_)(h:Nat)(deep:Bool)(w:World)(hM:ac_ w M)(W:WF M.m)(hh:h<M.nodes.length)(hbig:(aU_ M.m h deep).2.length<=100000)(hattr:∀i,i<M.nodes.length->(nd M.m i).attrs.length<=100000) :
  Calls Tryz.prog 131 #[.pointer (some ⟨M.mb,0,none⟩),.int .i64 h,.bool deep] w fun e w'=>∃M',e=.returned (.int .i64 ((aU_ M.m h deep).1:Nat))/\H.Frame M.foot w w'/\ac_ w' M'/\M'.m=(aU_ M.m h deep).2/\aO_ w M M':=by
 have hk:=hx_ W (h:=h) (by rw[M.m_len];exact hh)
 by_cases h0:h=0
 ·have hR:aU_ M.m h deep=(10,M.m):=by unfold aU_;rw[if_pos (hk.2 h0)]
  rw[hR];subst h0;have HM:=hi_ hM;clear hM hk hbig hattr hR W
  go_enter Tryz.func131,Tryz.ntmps131
  go_wp2_with fail
  refine bodyPost_ret (v:=.int .i64 10) (by simp[results,Tryz.results131,go_sem]) rfl ⟨M,rfl,H.Frame.refl _ _,HM.o,rfl,aO_.refl _ _⟩
 have hR:aU_ M.m h deep=(0,copyN 128 M.m h none deep):=by
  unfold aU_;rw[if_neg (fun e=>h0 (hk.1 e)),ki_ 128 M.m h deep M.m.length (nl_) W.low_all (by rw[M.m_len];exact hh) (WF.low W 128 h (by have:=W.depth_pos h;omega))]
 rw[hR]at hbig ⊢;have QC:=hi_ (mc_ 128 M.m.length M h none deep w hM (by rw[M.m_len];exact hh) (by rw[M.m_len];exact nl_) W.low_all (WF.low W 128 h (by have:=W.depth_pos h;omega)) (fun q hq=>by cases hq) hbig (fun i hi=>hattr i (by rw[<-M.m_len];exact hi)) (gv_.of W));rw[show ch_ none=(-1:Int)from rfl]at QC;have e0:((h:Int)==0)=false:=bn_ (by omega);have e1:¬(h:Int)=0:=by omega
 clear hM hk hbig hattr hR h0 W
 go_enter Tryz.func131,Tryz.ntmps131
 go_wp2_with fail
 refine QC.o.mono ?_;rintro e w1 ⟨M',rfl,hf,hm,hme,hl,_⟩;have HP:=hi_ (⟨hf,hm,hme,hl⟩:_/\_/\_/\_);clear hf hm hme hl QC;go_wp2_with fail
 refine bodyPost_ret (v:=.int .i64 0) (by simp[results,Tryz.results131,go_sem]) rfl ⟨M',rfl,HP.o.1,HP.o.2.1,HP.o.2.2.1,HP.o.2.2.2⟩
end R
end
section
open Go.RowKit Go.Sort
namespace G
def er(x:Node):Node:={ x with attrs:=[] }
structure Sim(m m2:aa_):Prop where
 len:m.length=m2.length
 same:∀i,er (nd m i)=er (nd m2 i)
theorem Sim.refl(m:aa_):Sim m m:=⟨rfl,fun _=>rfl⟩
theorem Sim.kind{m m2:aa_}(h:Sim m m2)(i:Nat):(nd m i).kind=(nd m2 i).kind:=by have:=congrArg Node.kind (h.same i);exact this
theorem Sim.parent{m m2:aa_}(h:Sim m m2)(i:Nat):(nd m i).parent=(nd m2 i).parent:=by have:=congrArg Node.parent (h.same i);exact this
theorem Sim.kids{m m2:aa_}(h:Sim m m2)(i:Nat):(nd m i).kids=(nd m2 i).kids:=by have:=congrArg Node.kids (h.same i);exact this
theorem Sim.gone{m m2:aa_}(h:Sim m m2)(i:Nat):(nd m i).gone=(nd m2 i).gone:=by have:=congrArg Node.gone (h.same i);exact this
theorem Sim.data{m m2:aa_}(h:Sim m m2)(i:Nat):(nd m i).data=(nd m2 i).data:=by have:=congrArg Node.data (h.same i);exact this
theorem Sim.has{m m2:aa_}(h:Sim m m2)(i:Nat):G.has m i=G.has m2 i:=by unfold G.has;rw[h.gone]
theorem Sim.wf{m m2:aa_}(h:Sim m m2)(W:WF m):WF m2:=W.same h.len.symm fun i=>⟨(h.kind i).symm,(h.parent i).symm,(h.kids i).symm,(h.gone i).symm⟩
end G
namespace A
open H G R
theorem bG_{w:World}{T:am_}(h:al_ w T){k:Nat}(hk:T.foot k):k<w.heap.size:=by
 rcases hk with e|e|e
 ·rw[e];exact h.blk.lt
 ·rw[e];exact(ad_ h.row).1
 exact(World.ownsRow.lt h.free k e).2
theorem al_.frame{S:Nat->Prop}{w w':World}{T:am_}(h:al_ w T)(f:H.Frame S w w')(hn:∀k,T.foot k->¬S k)(ha:∀r,r∈T.slots->∀g,r.attrs.ownBlock=some g->¬S g):al_ w' T:=
 ⟨h.blk.frame f (hn _ (Or.inl rfl)),ak_ h.row f (fun g hg=>hn g (Or.inr (Or.inl (by simpa[Value.ownBlock]using hg.symm)))),h.few,h.bb,ak_ h.free f (fun g hg=>hn g (Or.inr (Or.inr hg))),
  fun r hr=>ak_ (h.attrs r hr) f (fun g hg=>ha r hr g hg)⟩
theorem hH_{w:World}{T:am_}(h:al_ w T){k:Nat}{cs:Array Value}{t:TypeId}(hb:Blk k cs t w)(ht:142≠t):∀r,r∈T.slots->r.attrs.ownBlock≠some k:=fun r hr e=>ai_ (h.attrs r hr) hb ht e
theorem cI_{w:World}{T:am_}(h:al_ w T){k B size n:Nat}{v:Value}{xs:List Value}{t:TypeId}(hb:w.ownsRow B t size v n xs)(ht:142≠t)(hk:v.ownBlock=some k):∀r,r∈T.slots->r.attrs.ownBlock≠some k:=fun r hr e=>aQ_ (h.attrs r hr) hb ht e hk
theorem fg_{w:World}{T:am_}{M:aJ_}(h:al_ w T)(hM:ac_ w M){k:Nat}(hk:M.foot k):∀r,r∈T.slots->r.attrs.ownBlock≠some k:=by
 rcases hk with e|e|⟨x,hx,e|e⟩
 ·rw[e];exact hH_ h hM.blk (by decide)
 ·exact cI_ h hM.row (by decide) (by rw[e];rfl)
 ·exact cI_ h (hM.kids x hx) (by decide) e
 exact cI_ h (hM.attrs x hx) (by decide) e
structure Tw where
 T:am_
 m:aa_
 pos:Nat->Nat
 M:aJ_
 tb:Nat
 hv:Value
 B:Nat
 wD:World
 D:Nat->Prop
def Tw.key(X:Tw):Nat×World×(Nat->Prop):=(X.tb,X.wD,X.D)
def hv1(T:am_)(pos:Nat->Nat)(m:aa_)(i:Nat):Int:=if has m i then hd T pos i else -1
def hvs(T:am_)(pos:Nat->Nat)(m:aa_)(n:Nat):List Int:=(List.range n).map (hv1 T pos m)
def bB_(l:List Int):List Value:=l.map (Value.int .i64)
theorem eO_(l:List Int):(bB_ l).length=l.length:=by simp[bB_]
theorem jk_(T:am_)(pos:Nat->Nat)(m:aa_)(n:Nat):(hvs T pos m n).length=n:=by simp[hvs]
def Tw.foot(X:Tw)(k:Nat):Prop:=k=X.tb\/X.T.foot k\/X.M.foot k\/X.hv.ownBlock=some k
structure bu_(w0 w:World)(X:Tw):Prop where
 tree:ag_ w X.T X.m X.pos
 model:ac_ w X.M
 sim:Sim X.m X.M.m
 apart:∀k,X.T.foot k->¬X.M.foot k
 blk:Blk X.tb #[.pointer (some ⟨X.T.tb,0,none⟩),.pointer (some ⟨X.M.mb,0,none⟩),X.hv] 41 w
 row:w.ownsRow X.B 3 1 X.hv X.m.length (bB_ (hvs X.T X.pos X.m X.m.length))
 hap:∀k,X.hv.ownBlock=some k->¬X.T.foot k/\¬X.M.foot k
 slots:X.T.slots.length<=X.m.length
 bel:Below w0.heap.size w0 w
 low:∀k,X.foot k->w0.heap.size<=k
 fr:H.Frame X.D X.wD w
 flow:∀k,X.foot k->X.D k\/X.wD.heap.size<=k
section
variable {w0 w w':World} {X:Tw}
theorem bu_.below(h:bu_ w0 w X)(b:Below w.heap.size w w'):bu_ w0 w' X:=
 ⟨h.tree.below b,h.model.below b,h.sim,h.apart,h.blk.below b,own_below h.row b,h.hap,h.slots,h.bel.trans (b.mono h.bel.size),h.low,h.fr.below_ b,h.flow⟩
theorem bu_.tb_tree(h:bu_ w0 w X):¬X.T.foot X.tb:=fun e=>by
 have hb:=h.blk
 rcases e with e|e|e
 ·rw[e]at hb;exact absurd (cD_ hb h.tree.mem.blk) (by decide)
 ·exact ai_ h.tree.mem.row hb (by decide) (by rw[e];rfl)
 exact ai_ h.tree.mem.free hb (by decide) e
theorem bu_.tb_model(h:bu_ w0 w X):¬X.M.foot X.tb:=fun e=>by
 have hb:=h.blk
 rcases e with e|e|⟨x,hx,e|e⟩
 ·rw[e]at hb;exact absurd (cD_ hb h.model.blk) (by decide)
 ·exact ai_ h.model.row hb (by decide) (by rw[e];rfl)
 ·exact ai_ (h.model.kids x hx) hb (by decide) e
 exact ai_ (h.model.attrs x hx) hb (by decide) e
theorem bu_.tb_row(h:bu_ w0 w X):X.hv.ownBlock≠some X.tb:=ai_ h.row h.blk (by decide)
theorem bu_.foot_lt(h:bu_ w0 w X){k:Nat}(hk:X.foot k):k<w.heap.size:=by
 rcases hk with e|e|e|e
 ·rw[e];exact h.blk.lt
 ·exact bG_ h.tree.mem e
 ·exact R.foot_lt h.model e
 exact(World.ownsRow.lt h.row k e).2
structure Mid(w0 w1:World)(X:Tw):Prop where
 model:ac_ w1 X.M
 blk:Blk X.tb #[.pointer (some ⟨X.T.tb,0,none⟩),.pointer (some ⟨X.M.mb,0,none⟩),X.hv] 41 w1
 row:w1.ownsRow X.B 3 1 X.hv X.m.length (bB_ (hvs X.T X.pos X.m X.m.length))
 bel:Below w0.heap.size w0 w1
 fr:H.Frame X.D X.wD w1
theorem bu_.mid(h:bu_ w0 w X)(f:H.Frame X.T.foot w w'):Mid w0 w' X:=
 ⟨h.model.frame f (fun k hk hs=>h.apart k hs hk),h.blk.frame f h.tb_tree,ak_ h.row f (fun g hg hs=>(h.hap g hg).1 hs),
  h.bel.trans ((f.below (B:=w0.heap.size) (fun k hk=>h.low k (Or.inr (Or.inl hk))) h.bel.size)),h.fr.trans f (fun k hk=>h.flow k (Or.inr (Or.inl hk)))⟩
theorem Mid.below{w1 w2:World}(h:Mid w0 w1 X)(b:Below w1.heap.size w1 w2):Mid w0 w2 X:=⟨h.model.below b,h.blk.below b,own_below h.row b,h.bel.trans (b.mono h.bel.size),h.fr.below_ b⟩
theorem bu_.next(h:bu_ w0 w X){T':am_}{m':aa_}{pos':Nat->Nat}{M':aJ_}{w1 w2:World}(f1:H.Frame X.T.foot w w1)(g1:Goes w X.T T')(t1:ag_ w1 T' m' pos')(f2:H.Frame X.M.foot w1 w2)(t2:ac_ w2 M')(l2:aO_ w1 X.M M')
  (hs:Sim m' M'.m) (hlen:m'.length=X.m.length) (hhas:∀i,has m' i=has X.m i) (hpos:∀i,i<X.m.length->pos' i=X.pos i) (hsl:T'.slots.length<=m'.length) :
  bu_ w0 w2 { X with T:=T',m:=m',pos:=pos',M:=M' }:=by
 have hm:=h.mid f1;have hf1:∀k,T'.foot k->X.T.foot k\/w.heap.size<=k:=g1.foot;have hX1:∀k,X.foot k->k<w.heap.size:=fun k hk=>h.foot_lt hk;have hap1:∀k,T'.foot k->¬X.M.foot k:=fun k hk hM=>(hf1 k hk).elim (fun e=>h.apart k e hM) (fun e=>by have:=hX1 k (Or.inr (Or.inr (Or.inl hM)));omega);have ht2:ag_ w2 T' m' pos':=⟨al_.frame t1.mem f2 hap1 (fun r hr g hg hS=>fg_ t1.mem hm.model hS r hr hg),t1.fits⟩;have hvs_eq:hvs T' pos' m' m'.length=hvs X.T X.pos X.m X.m.length:=by
  unfold hvs;rw[hlen];refine List.map_congr_left fun i hi=>?_;unfold hv1 hd;rw[hhas i,g1.bs,g1.st,hpos i (List.mem_range.1 hi)]
 have hs1:=f1.size;have hs2:=f2.size;refine⟨ht2,t2,hs,fun k hk hM=>?_,?_,?_,fun k hk=>⟨fun e=>?_,fun e=>?_⟩,hsl,?_,fun k hk=>?_,hm.fr.trans f2 (fun k hk=>h.flow k (Or.inr (Or.inr (Or.inl hk)))),fun k hk=>?_⟩
 ·rcases l2.foot k hM with e|e
  ·exact hap1 k hk e
  have:=bG_ t1.mem hk;omega
 ·have h1:=hm.blk.frame f2 h.tb_model
  show Blk X.tb #[.pointer (some ⟨T'.tb,0,none⟩),.pointer (some ⟨M'.mb,0,none⟩),X.hv] _ w2;rw[g1.tb,l2.mb];exact h1
 ·show w2.ownsRow X.B _ 1 X.hv m'.length (bB_ (hvs T' pos' m' m'.length))
  rw[hvs_eq,hlen];exact ak_ hm.row f2 (fun g hg hS=>(h.hap g hg).2 hS)
 ·rcases hf1 k e with e|e
  ·exact(h.hap k hk).1 e
  have:=hX1 k (Or.inr (Or.inr (Or.inr hk)));omega
 ·rcases l2.foot k e with e|e
  ·exact(h.hap k hk).2 e
  have:=hX1 k (Or.inr (Or.inr (Or.inr hk)));omega
 ·exact hm.bel.trans (f2.below (B:=w0.heap.size) (fun k hk=>h.low k (Or.inr (Or.inr (Or.inl hk)))) hm.bel.size)
 ·have hw:=h.bel.size
  rcases hk with e|e|e|e
  ·exact h.low k (Or.inl e)
  ·rcases hf1 k e with e|e
   ·exact h.low k (Or.inr (Or.inl e))
   omega
  ·rcases l2.foot k e with e|e
   ·exact h.low k (Or.inr (Or.inr (Or.inl e)))
   omega
  exact h.low k (Or.inr (Or.inr (Or.inr e)))
 show X.D k\/X.wD.heap.size<=k;have hw:=h.fr.size
 rcases hk with e|e|e|e
 ·exact h.flow k (Or.inl e)
 ·rcases hf1 k e with e|e
  ·exact h.flow k (Or.inr (Or.inl e))
  exact Or.inr (by omega)
 ·rcases l2.foot k e with e|e
  ·exact h.flow k (Or.inr (Or.inr (Or.inl e)))
  exact Or.inr (by omega)
 exact h.flow k (Or.inr (Or.inr (Or.inr e)))
theorem bu_.now(h:bu_ w0 w X):bu_ w0 w { X with wD:=w,D:=X.foot }:=
 ⟨h.tree,h.model,h.sim,h.apart,h.blk,h.row,h.hap,h.slots,h.bel,h.low,H.Frame.refl _ _,fun k hk=>Or.inl hk⟩
end
end A
end
section
open Go.RowKit Go.Sort
namespace A
open H G R
theorem bu_.toMid{w0 w:World}{X:Tw}(h:bu_ w0 w X):Mid w0 w X:=⟨h.model,h.blk,h.row,h.bel,h.fr⟩
def hvO(X:Tw):Option Nat->Int
 |none=>0
 |some i=>hv1 X.T X.pos X.m i
theorem Mid.cells{w0 w:World}{X:Tw}(h:Mid w0 w X)(hl:0<X.m.length):∃g cap,X.hv=.slice (some ⟨g,0,none⟩) X.m.length cap/\g<w.heap.size/\X.m.length<=cap ∧
  (∀i,i<X.m.length->w.cell? ⟨g,i,none⟩=some (.int .i64 (hv1 X.T X.pos X.m i))/\w.frozen? ⟨g,i,none⟩=false):=by
 obtain⟨g,cap,hv,hb,hl2,hc⟩:=a1_ h.row hl;have hr:=h.row;rw[hv]at hr;refine⟨g,cap,hv,hl2,hc,fun i hi=>?_⟩;have h1:=(ad_ hr).2.2.2 i (by rw[eO_,jk_];exact hi);refine⟨?_,h1.2⟩;rw[h1.1];unfold bB_ hvs;rw[List.getElem?_map,List.getElem?_map,List.getElem?_range hi];rfl
theorem cells3{w:World}{g:Nat}{t:TypeId}{a0 a1 a2:Value}(h:Blk g #[a0,a1,a2] t w):w.cell? ⟨g,0,none⟩=some a0/\w.cell? ⟨g,1,none⟩=some a1/\w.cell? ⟨g,2,none⟩=some a2/\g<w.heap.size:=⟨(ae_ h).1 0,(ae_ h).1 1,(ae_ h).1 2,h.lt⟩
theorem cj_{X:Tw}{o:Option Nat}(h:∀i,o=some i->has X.m i=true):hvO X o=hdO X.T X.pos o:=by
 cases o with
 |none=>rfl
 |some i=>
  show hv1 X.T X.pos X.m i=hd X.T X.pos i;unfold hv1;rw[if_pos (h i rfl)]
theorem row11{α:Type}{c:α->List Value}{B:Nat}{e:TypeId}{w:World}{g cap:Nat}{l:List α}(hc:∀x,(c x).length=11)(h:ab_ c B e 11 w (.slice (some ⟨g,0,none⟩) l.length cap) l){i:Nat}(hi:i<l.length){a0 a1 a2 a3 a4 a5 a6 a7 a8 a9 a10:Value}(ha:c l[i]=[a0,a1,a2,a3,a4,a5,a6,a7,a8,a9,a10]) :
  w.cell? ⟨g,i*11,none⟩=some a0/\w.cell? ⟨g,i*11+1,none⟩=some a1/\w.cell? ⟨g,i*11+2,none⟩=some a2/\w.cell? ⟨g,i*11+3,none⟩=some a3/\w.cell? ⟨g,i*11+4,none⟩=some a4/\w.cell? ⟨g,i*11+5,none⟩=some a5/\w.cell? ⟨g,i*11+6,none⟩=some a6/\w.cell? ⟨g,i*11+7,none⟩=some a7/\w.cell? ⟨g,i*11+8,none⟩=some a8/\w.cell? ⟨g,i*11+9,none⟩=some a9/\w.cell? ⟨g,i*11+10,none⟩=some a10:=by
 have hk:=fun k (hk:k<11)=>(ab_.cell hc h hi (k:=k) hk).1;rw[ha]at hk;exact⟨hk 0 (by omega),hk 1 (by omega),hk 2 (by omega),hk 3 (by omega),hk 4 (by omega),hk 5 (by omega),hk 6 (by omega),hk 7 (by omega),hk 8 (by omega),hk 9 (by omega),hk 10 (by omega)⟩
theorem ck_{w0 w:World}{X:Tw}(h:Mid w0 w X)(hl:0<X.m.length)(o:Option Nat)(ho:∀i,o=some i->i<X.m.length) :
  Calls Tryz.prog 61 #[.pointer (some ⟨X.tb,0,none⟩),.int .i64 (ch_ o)] w fun e w'=>e=.returned (.int .i64 (hvO X o))/\w=w':=by
 obtain⟨g,cap,hv,hg,hcap,hc⟩:=h.cells hl;obtain⟨c0,c1,c2,hlt⟩:=cells3 h.blk;rw[hv]at c2
 cases o with
 |none=>
  have e0:ch_ none=-1:=rfl;rw[e0];have HR:Hd (hvO X none=0):=hi_ rfl;generalize hvO X none=R at *;clear e0 ho h hc hv
  go_enter Tryz.func61,Tryz.ntmps61
  go_wp2_with fail
  go_ret
  exact⟨aE_ HR.o.symm,rfl⟩
 |some i=>
  have hi:=ho i rfl;have ci:=(hc i hi).1;have e0:ch_ (some i)=(i:Int):=rfl;rw[e0];have n1:(i:Int)<(X.m.length:Int):=by omega
  have n2:¬(X.m.length:Int)<=(i:Int):=by omega
  have n0:¬(i:Int)<0:=by omega
  have HR:Hd (hvO X (some i)=hv1 X.T X.pos X.m i):=hi_ rfl;generalize hv1 X.T X.pos X.m i=z at *;generalize hvO X (some i)=R at *;generalize X.m.length=n at *;clear e0 ho h hc hv hi
  go_enter Tryz.func61,Tryz.ntmps61
  go_wp2_with fail
  go_ret
  exact⟨aE_ HR.o.symm,rfl⟩
theorem lC_(w:World)(c1 c2:Array Value)(t1 t2:TypeId):Blk w.heap.size c1 t1 ((w.alloc (.cells c1 t1)).alloc (.cells c2 t2)).drew/\Blk (w.heap.size+1) c2 t2 ((w.alloc (.cells c1 t1)).alloc (.cells c2 t2)).drew/\Below w.heap.size w ((w.alloc (.cells c1 t1)).alloc (.cells c2 t2)).drew:=by
 refine⟨hG_ ((Blk.new w c1 t1).alloc _),?_,(((Below.refl w.heap.size w).alloc (nl_) _).alloc (by simp) _).drew⟩;have h3:=Blk.new (w.alloc (.cells c1 t1)) c2 t2;rw[World.size_alloc]at h3;exact hG_ h3
theorem dv_{w0 w:World}{X:Tw}(h:Mid w0 w X)(hl:0<X.m.length)(T:am_)(pos:Nat->Nat)(l l2:List Rec)(b1 b2:Nat)(v v2:Value)(hr:aD_ T pos b1 w v l)(hr2:aI_ b2 w v2 l2)(hne:l.length≠l2.length)(hk1:l.length<=1000)(hk2:l2.length<=1000) :
  Calls Tryz.prog 74 #[.pointer (some ⟨X.tb,0,none⟩),v,v2] w fun e w'=>e=.returned (.bool false)/\Below w.heap.size w w':=by
 obtain⟨ao,cap,hv⟩:=ab_.slice hr;obtain⟨ao2,cap2,hv2⟩:=ab_.slice hr2;subst hv hv2;have n1:((l.length:Int) != (l2.length:Int))=true:=bne_iff_ne.2 (by omega);have n2:¬(l.length:Int)=(l2.length:Int):=by omega
 clear h hr hr2
 go_enter Tryz.func74,Tryz.ntmps74
 go_wp2_with fail
 go_ret
 exact⟨rfl,br_⟩
theorem f2_{w0 w:World}{X:Tw}(h:Mid w0 w X)(hl:0<X.m.length)(l l2:List Rec)(b1 b2:Nat)(v v2:Value)(hr:aD_ X.T X.pos b1 w v l)(hr2:aI_ b2 w v2 l2)(hlen:l.length=l2.length)(hk1:l.length<=1000)(hs:∀i (h1:i<l.length) (h2:i<l2.length),∃od hb,l2[i]={ l[i]with old:=od,had:=hb })
  (hn:∀r,r∈l->has X.m r.target=true/\(∀i,r.node=some i->has X.m i=true)/\(∀i,r.prev=some i->has X.m i=true)/\(∀i,r.next=some i->has X.m i=true)) :
  Calls Tryz.prog 74 #[.pointer (some ⟨X.tb,0,none⟩),v,v2] w fun e w'=>∃b,e=.returned (.bool b)/\(l=l2->b=true)/\Below w.heap.size w w':=by
 obtain⟨ao,cap,hv⟩:=ab_.slice hr;obtain⟨ao2,cap2,hv2⟩:=ab_.slice hr2;rw[<-hlen]at hv2;subst hv hv2;have HL:=hi_ hlen;have HSm:=hi_ hs;have HR:=hi_ hr;have HR2:=hi_ hr2;have HMd:=hi_ h;have HN:=hi_ hn;have HB:=hi_ (Below.refl w.heap.size w);clear h hr hr2 hn hlen hs
 go_enter Tryz.func74,Tryz.ntmps74
 go_wp2_with fail
 go_loopw [7] (fun v7 wr=>∃i:Nat,v7=.int .i64 (i:Nat)/\i<=l.length/\Hd (Below w.heap.size w wr)) (fun v7 _=>l.length-(a2_ v7).toNat)
 case atStart=>exact⟨0,rfl,Nat.zero_le _,HB⟩
 obtain⟨i,rfl,hi,HBi⟩:=hrel;clear HB
 by_cases hlt:i<l.length
 ·have hii:(i:Int)<(l.length:Int):=by omega
  have p0:(0:Int)<=(i:Int):=by omega
  obtain⟨ga,cap',hva,hga1,hga2,_⟩:=a1_ HR.o (by omega);injection hva with e1 _ e3
  subst e1 e3;obtain⟨gb,cap',hvb,hgb1,hgb2,_⟩:=a1_ HR2.o (by have:=HL.o;omega);injection hvb with e1 e2 e3
  subst e1 e3;clear e2;have hrA:aD_ X.T X.pos b1 wr (.slice (some ⟨ga,0,none⟩) l.length cap) l:=own_below HR.o HBi.o;have hrB:aI_ b2 wr (.slice (some ⟨gb,0,none⟩) l2.length cap2) l2:=by
   have h9:=own_below HR2.o HBi.o;rw[HL.o]at h9;exact h9
  have hga:ga<wr.heap.size:=Nat.lt_of_lt_of_le hga2 HBi.o.size;have hgb:gb<wr.heap.size:=Nat.lt_of_lt_of_le hgb2 HBi.o.size;have hN:=HN.o l[i] (List.getElem_mem hlt);have hMw:=HMd.o.below HBi.o;have htl:l[i].target<X.m.length:=aR_ hN.1;have q1:=fun W (hb:Below wr.heap.size wr W)=>ck_ (hMw.below hb) hl (some l[i].target) (fun j e=>by injection e with e;rw[<-e];exact htl);have q2:=fun W (hb:Below wr.heap.size wr W)=>ck_ (hMw.below hb) hl l[i].node (fun j e=>aR_ (hN.2.1 j e));have q3:=fun W (hb:Below wr.heap.size wr W)=>ck_ (hMw.below hb) hl l[i].prev (fun j e=>aR_ (hN.2.2.1 j e));have q4:=fun W (hb:Below wr.heap.size wr W)=>ck_ (hMw.below hb) hl l[i].next (fun j e=>aR_ (hN.2.2.2 j e));rw[cj_ (fun j e=>by injection e with e;rw[<-e];exact hN.1)]at q1
  rw[cj_ hN.2.1]at q2;rw[cj_ hN.2.2.1]at q3;rw[cj_ hN.2.2.2]at q4;have hltb:i<l2.length:=by rw[<-HL.o];exact hlt
  obtain⟨p2,u2,hq2⟩:=HSm.o i hlt hltb;obtain⟨rc,hrc⟩:∃rc,rc=l[i]:=⟨_,rfl⟩;obtain⟨od2,hod2⟩:∃od2:ByteArray,od2=⟨p2.toArray⟩:=⟨_,rfl⟩;have hcB:aX_ l2[i]=[.int .i64 rc.kind,.int .i64 rc.target,.int .i64 (ch_ rc.node),.int .i64 (ch_ rc.prev),.int .i64 (ch_ rc.next),.int .i64 rc.index,.string ⟨rc.name.toArray⟩,.string od2,.bool u2,.int .i64 rc.count,.int .i64 rc.size]:=by rw[hq2,hrc,hod2];rfl
  have hBk:l=l2->(⟨rc.old.toArray⟩:ByteArray)=od2/\rc.had=u2:=fun e=>by
   subst e;have h1:rc={ rc with old:=p2,had:=u2 }:=by rw[hrc];exact hq2
   have h2:=congrArg Rec.old h1;have h3:=congrArg Rec.had h1;exact⟨by rw[hod2,h2],h3⟩
  clear hod2 hq2;have hA:wr.cell? ⟨ga,i*11,none⟩=some (.int .i64 rc.kind)/\wr.cell? ⟨ga,i*11+1,none⟩=some (.int .i64 (hd X.T X.pos rc.target))/\wr.cell? ⟨ga,i*11+2,none⟩=some (.int .i64 (hdO X.T X.pos rc.node))/\wr.cell? ⟨ga,i*11+3,none⟩=some (.int .i64 (hdO X.T X.pos rc.prev))/\wr.cell? ⟨ga,i*11+4,none⟩=some (.int .i64 (hdO X.T X.pos rc.next))/\wr.cell? ⟨ga,i*11+5,none⟩=some (.int .i64 rc.index)/\wr.cell? ⟨ga,i*11+6,none⟩=some (.string ⟨rc.name.toArray⟩)/\wr.cell? ⟨ga,i*11+7,none⟩=some (.string ⟨rc.old.toArray⟩)/\wr.cell? ⟨ga,i*11+8,none⟩=some (.bool rc.had)/\wr.cell? ⟨ga,i*11+9,none⟩=some (.int .i64 rc.count)/\wr.cell? ⟨ga,i*11+10,none⟩=some (.int .i64 rc.size):=row11 (d0_ X.T X.pos) hrA hlt (by rw[<-hrc];rfl)
  have hB:wr.cell? ⟨gb,i*11,none⟩=some (.int .i64 rc.kind)/\wr.cell? ⟨gb,i*11+1,none⟩=some (.int .i64 rc.target)/\wr.cell? ⟨gb,i*11+2,none⟩=some (.int .i64 (ch_ rc.node))/\wr.cell? ⟨gb,i*11+3,none⟩=some (.int .i64 (ch_ rc.prev))/\wr.cell? ⟨gb,i*11+4,none⟩=some (.int .i64 (ch_ rc.next))/\wr.cell? ⟨gb,i*11+5,none⟩=some (.int .i64 rc.index)/\wr.cell? ⟨gb,i*11+6,none⟩=some (.string ⟨rc.name.toArray⟩)/\wr.cell? ⟨gb,i*11+7,none⟩=some (.string od2)/\wr.cell? ⟨gb,i*11+8,none⟩=some (.bool u2)/\wr.cell? ⟨gb,i*11+9,none⟩=some (.int .i64 rc.count)/\wr.cell? ⟨gb,i*11+10,none⟩=some (.int .i64 rc.size):=row11 eq_ hrB hltb hcB;rw[<-hrc]at q1 q2 q3 q4;rw[show ch_ (some rc.target)=(rc.target:Int)from rfl,show hdO X.T X.pos (some rc.target)=hd X.T X.pos rc.target from rfl]at q1
  have Q1:=hi_ q1;have Q2:=hi_ q2;have Q3:=hi_ q3;have Q4:=hi_ q4;clear q1 q2 q3 q4 hN hMw htl hrA hrB hga1 hga2 hgb1 hgb2 hrc hcB;generalize hd X.T X.pos rc.target=zt at *;generalize hdO X.T X.pos rc.node=zn at *;generalize hdO X.T X.pos rc.prev=zp at *;generalize hdO X.T X.pos rc.next=zx at *;generalize ((rc.kind:Nat):Int)=k0 at *;generalize ((rc.target:Nat):Int)=yt at *;generalize ch_ rc.node=yn at *;generalize ch_ rc.prev=yp at *;generalize ch_ rc.next=yx at *;generalize ((rc.index:Nat):Int)=ix at *;generalize (⟨rc.name.toArray⟩:ByteArray)=nm at *;generalize (⟨rc.old.toArray⟩:ByteArray)=od at *;generalize rc.had=hb at *;generalize ((rc.count:Nat):Int)=ct at *;generalize ((rc.size:Nat):Int)=sz at *;have HBk:=hi_ hBk;clear hBk;obtain⟨a0,a1,a2,a3,a4,a5,a6,a7,a8,a9,a10⟩:=hA
  obtain⟨b0,b1,b2,b3,b4,b5,b6,b7,b8,b9,b10⟩:=hB
  have HSS:Hd (∀w',Below wr.heap.size wr w'->Below wr.heap.size wr w'/\w'.cell? ⟨ga,i*11,none⟩=some (.int .i64 k0)/\w'.cell? ⟨ga,i*11+1,none⟩=some (.int .i64 zt)/\w'.cell? ⟨ga,i*11+2,none⟩=some (.int .i64 zn)/\w'.cell? ⟨ga,i*11+3,none⟩=some (.int .i64 zp)/\w'.cell? ⟨ga,i*11+4,none⟩=some (.int .i64 zx)/\w'.cell? ⟨ga,i*11+5,none⟩=some (.int .i64 ix)/\w'.cell? ⟨ga,i*11+6,none⟩=some (.string nm)/\w'.cell? ⟨ga,i*11+7,none⟩=some (.string od)/\w'.cell? ⟨ga,i*11+8,none⟩=some (.bool hb)/\w'.cell? ⟨ga,i*11+9,none⟩=some (.int .i64 ct)/\w'.cell? ⟨ga,i*11+10,none⟩=some (.int .i64 sz)/\w'.cell? ⟨gb,i*11,none⟩=some (.int .i64 k0)/\w'.cell? ⟨gb,i*11+1,none⟩=some (.int .i64 yt)/\w'.cell? ⟨gb,i*11+2,none⟩=some (.int .i64 yn)/\w'.cell? ⟨gb,i*11+3,none⟩=some (.int .i64 yp)/\w'.cell? ⟨gb,i*11+4,none⟩=some (.int .i64 yx)/\w'.cell? ⟨gb,i*11+5,none⟩=some (.int .i64 ix)/\w'.cell? ⟨gb,i*11+6,none⟩=some (.string nm)/\w'.cell? ⟨gb,i*11+7,none⟩=some (.string od2)/\w'.cell? ⟨gb,i*11+8,none⟩=some (.bool u2)/\w'.cell? ⟨gb,i*11+9,none⟩=some (.int .i64 ct)/\w'.cell? ⟨gb,i*11+10,none⟩=some (.int .i64 sz)):=hi_ (fun w' b=>⟨b,(b.cell (p:=⟨ga,i*11,none⟩) hga).trans a0,(b.cell (p:=⟨ga,i*11+1,none⟩) hga).trans a1,(b.cell (p:=⟨ga,i*11+2,none⟩) hga).trans a2,(b.cell (p:=⟨ga,i*11+3,none⟩) hga).trans a3,(b.cell (p:=⟨ga,i*11+4,none⟩) hga).trans a4,(b.cell (p:=⟨ga,i*11+5,none⟩) hga).trans a5,(b.cell (p:=⟨ga,i*11+6,none⟩) hga).trans a6,(b.cell (p:=⟨ga,i*11+7,none⟩) hga).trans a7,(b.cell (p:=⟨ga,i*11+8,none⟩) hga).trans a8,(b.cell (p:=⟨ga,i*11+9,none⟩) hga).trans a9,(b.cell (p:=⟨ga,i*11+10,none⟩) hga).trans a10,(b.cell (p:=⟨gb,i*11,none⟩) hgb).trans b0,(b.cell (p:=⟨gb,i*11+1,none⟩) hgb).trans b1,(b.cell (p:=⟨gb,i*11+2,none⟩) hgb).trans b2,(b.cell (p:=⟨gb,i*11+3,none⟩) hgb).trans b3,(b.cell (p:=⟨gb,i*11+4,none⟩) hgb).trans b4,(b.cell (p:=⟨gb,i*11+5,none⟩) hgb).trans b5,(b.cell (p:=⟨gb,i*11+6,none⟩) hgb).trans b6,(b.cell (p:=⟨gb,i*11+7,none⟩) hgb).trans b7,(b.cell (p:=⟨gb,i*11+8,none⟩) hgb).trans b8,(b.cell (p:=⟨gb,i*11+9,none⟩) hgb).trans b9,(b.cell (p:=⟨gb,i*11+10,none⟩) hgb).trans b10⟩)
  have hb1:Below wr.heap.size wr wr.drew:=(Below.refl wr.heap.size wr).drew;have hw1:wr.drew.heap.size=wr.heap.size:=rfl;have HBd:=hi_ hb1;have HBa:=hi_ (fun(c1:Obj)=>(Below.refl wr.heap.size wr).alloc (nl_) c1);have HBb:=hi_ (fun(c1 c2:Obj)=>((Below.refl wr.heap.size wr).alloc (nl_) c1).alloc (by simp) c2);have HZ0:Hd (wr.heap.size<=wr.heap.size):=hi_ (nl_);have HZ1:Hd (wr.heap.size<=wr.heap.size+1):=hi_ (Nat.le_succ _);clear hb1 hw1;go_upto_region 6 with fail
  go_cut [8,9] (fun s8 s9 wx=>∃A1 A2,s8=.pointer (some ⟨A1,0,none⟩)/\s9=.pointer (some ⟨A2,0,none⟩)/\Hd (Blk A1 #[.int .i64 k0,.int .i64 zt,.int .i64 zn,.int .i64 zp,.int .i64 zx,.int .i64 ix,.string nm,.string od,.bool hb,.int .i64 ct,.int .i64 sz] 73 wx)/\Hd (Blk A2 #[.int .i64 k0,.int .i64 yt,.int .i64 yn,.int .i64 yp,.int .i64 yx,.int .i64 ix,.string nm,.string od2,.bool u2,.int .i64 ct,.int .i64 sz] 71 wx)/\Hd (Below wr.heap.size wr wx))
  case first=>
   go_region_held3 (fun w':World=>Below wr.heap.size wr w'/\w'.cell? ⟨ga,i*11,none⟩=some (.int .i64 k0)/\w'.cell? ⟨ga,i*11+1,none⟩=some (.int .i64 zt)/\w'.cell? ⟨ga,i*11+2,none⟩=some (.int .i64 zn)/\w'.cell? ⟨ga,i*11+3,none⟩=some (.int .i64 zp)/\w'.cell? ⟨ga,i*11+4,none⟩=some (.int .i64 zx)/\w'.cell? ⟨ga,i*11+5,none⟩=some (.int .i64 ix)/\w'.cell? ⟨ga,i*11+6,none⟩=some (.string nm)/\w'.cell? ⟨ga,i*11+7,none⟩=some (.string od)/\w'.cell? ⟨ga,i*11+8,none⟩=some (.bool hb)/\w'.cell? ⟨ga,i*11+9,none⟩=some (.int .i64 ct)/\w'.cell? ⟨ga,i*11+10,none⟩=some (.int .i64 sz)/\w'.cell? ⟨gb,i*11,none⟩=some (.int .i64 k0)/\w'.cell? ⟨gb,i*11+1,none⟩=some (.int .i64 yt)/\w'.cell? ⟨gb,i*11+2,none⟩=some (.int .i64 yn)/\w'.cell? ⟨gb,i*11+3,none⟩=some (.int .i64 yp)/\w'.cell? ⟨gb,i*11+4,none⟩=some (.int .i64 yx)/\w'.cell? ⟨gb,i*11+5,none⟩=some (.int .i64 ix)/\w'.cell? ⟨gb,i*11+6,none⟩=some (.string nm)/\w'.cell? ⟨gb,i*11+7,none⟩=some (.string od2)/\w'.cell? ⟨gb,i*11+8,none⟩=some (.bool u2)/\w'.cell? ⟨gb,i*11+9,none⟩=some (.int .i64 ct)/\w'.cell? ⟨gb,i*11+10,none⟩=some (.int .i64 sz)) (first|with_reducible assumption|with_reducible exact HSS.o _ HBd.o|with_reducible exact HSS.o _ (HBa.o _).drew|with_reducible exact HSS.o _ (HBb.o _ _).drew|with_reducible exact HSS.o _ (a0_ (a0_ (a0_ (a0_ (a0_ (a0_ (a0_ (a0_ (a0_ (a0_ (a0_ (HBb.o _ _).drew HZ0.o) HZ0.o) HZ0.o) HZ0.o) HZ0.o) HZ0.o) HZ0.o) HZ0.o) HZ0.o) HZ0.o) HZ0.o)|with_reducible exact HSS.o _ (a0_ (a0_ (a0_ (a0_ (a0_ (a0_ (a0_ (a0_ (a0_ (a0_ (a0_ (HBb.o _ _).drew HZ1.o) HZ1.o) HZ1.o) HZ1.o) HZ1.o) HZ1.o) HZ1.o) HZ1.o) HZ1.o) HZ1.o) HZ1.o)|with_reducible exact HSS.o _ (a0_ (a0_ (a0_ (a0_ (a0_ (a0_ (a0_ (a0_ (a0_ (a0_ (a0_ (a0_ (a0_ (a0_ (a0_ (a0_ (a0_ (a0_ (a0_ (a0_ (a0_ (a0_ (HBb.o _ _).drew HZ0.o) HZ0.o) HZ0.o) HZ0.o) HZ0.o) HZ0.o) HZ0.o) HZ0.o) HZ0.o) HZ0.o) HZ0.o) HZ1.o) HZ1.o) HZ1.o) HZ1.o) HZ1.o) HZ1.o) HZ1.o) HZ1.o) HZ1.o) HZ1.o) HZ1.o)|with_reducible exact HSS.o _ (a0_ (a0_ (a0_ (a0_ (a0_ (a0_ (a0_ (a0_ (a0_ (a0_ (a0_ (a0_ (a0_ (a0_ (a0_ (a0_ (a0_ (a0_ (a0_ (a0_ (a0_ (a0_ (HBb.o _ _).drew HZ1.o) HZ1.o) HZ1.o) HZ1.o) HZ1.o) HZ1.o) HZ1.o) HZ1.o) HZ1.o) HZ1.o) HZ1.o) HZ0.o) HZ0.o) HZ0.o) HZ0.o) HZ0.o) HZ0.o) HZ0.o) HZ0.o) HZ0.o) HZ0.o) HZ0.o)) (fail)
   all_goals (
    go_wp2_with fail
    go_meet
    first
     | (have h9 := lC_ wr #[.int .i64 k0, .int .i64 zt, .int .i64 zn, .int .i64 zp, .int .i64 zx, .int .i64 ix, .string nm, .string od, .bool hb, .int .i64 ct, .int .i64 sz] #[.int .i64 k0, .int .i64 yt, .int .i64 yn, .int .i64 yp, .int .i64 yx, .int .i64 ix, .string nm, .string od2, .bool u2, .int .i64 ct, .int .i64 sz] 73 71
        with_reducible exact⟨_,_,rfl,rfl,hi_ h9.1,hi_ h9.2.1,hi_ h9.2.2⟩)
     | (have h9 := lC_ wr #[.int .i64 k0, .int .i64 yt, .int .i64 yn, .int .i64 yp, .int .i64 yx, .int .i64 ix, .string nm, .string od2, .bool u2, .int .i64 ct, .int .i64 sz] #[.int .i64 k0, .int .i64 zt, .int .i64 zn, .int .i64 zp, .int .i64 zx, .int .i64 ix, .string nm, .string od, .bool hb, .int .i64 ct, .int .i64 sz] 71 73
        with_reducible exact⟨_,_,rfl,rfl,hi_ h9.2.1,hi_ h9.1,hi_ h9.2.2⟩))
  obtain⟨A1,A2,rfl,rfl,HA1,HA2,HBx⟩:=hcut;have HBw:=bt_ HBi HBx.o;obtain⟨⟨d0,d1,d2,d3,d4,d5,d6,d7,d8,d9,d10⟩,_⟩:=bq_ HA1.o;obtain⟨⟨e0,e1,e2,e3,e4,e5,e6,e7,e8,e9,e10⟩,_⟩:=bq_ HA2.o;have hA1:=HA1.o.lt;have hA2:=HA2.o.lt;have HBX:=hi_ (fun d:Later wc.heap.size wc=>HBx.o.trans (d.h.mono HBx.o.size));have D0:=lc_ d0 hA1;have E0:=lc_ e0 hA2;have D1:=lc_ d1 hA1;have E1:=lc_ e1 hA2;have D2:=lc_ d2 hA1;have E2:=lc_ e2 hA2;have D3:=lc_ d3 hA1;have E3:=lc_ e3 hA2;have D4:=lc_ d4 hA1;have E4:=lc_ e4 hA2;have D5:=lc_ d5 hA1;have E5:=lc_ e5 hA2;have D6:=lc_ d6 hA1;have E6:=lc_ e6 hA2;have D7:=lc_ d7 hA1;have E7:=lc_ e7 hA2;have D8:=lc_ d8 hA1;have E8:=lc_ e8 hA2;have D9:=lc_ d9 hA1;have E9:=lc_ e9 hA2;have D10:=lc_ d10 hA1;have E10:=lc_ e10 hA2
  clear a0 a1 a2 a3 a4 a5 a6 a7 a8 a9 a10 b0 b1 b2 b3 b4 b5 b6 b7 b8 b9 b10 HSS HBd HBa HBb HZ0 HZ1;go_upto_region 7 with fail
  by_cases hE:od=od2
  ·subst hE
   by_cases hE2:hb=u2
   ·subst hE2
    refine af_ (by kernel_rfl) (by kernel_rfl) ?_;try simp only[List.append_eq,List.cons_append,List.nil_append]
    repeat (go_big_quiet_step (first|(go_at_call_of 61 (Value.int .i64 yt);exact Calls.later_same (Q1.o _ (HBX.o _)))|(go_at_call_of 61 (Value.int .i64 yn);exact Calls.later_same (Q2.o _ (HBX.o _)))|(go_at_call_of 61 (Value.int .i64 yp);exact Calls.later_same (Q3.o _ (HBX.o _)))|(go_at_call_of 61 (Value.int .i64 yx);exact Calls.later_same (Q4.o _ (HBX.o _)))))
    refine wq_ (fun dq=>?_);have HB9:=bt_ HBw dq.h;generalize dq.w=w9 at *;have wq:IntKind.i64.wrap ((i:Int)+1)=(i:Int)+1:=IntWalk.i64_in _ (by omega);clear Q1 Q2 Q3 Q4 d0 d1 d2 d3 d4 d5 d6 d7 d8 d9 d10 e0 e1 e2 e3 e4 e5 e6 e7 e8 e9 e10 D0 D1 D2 D3 D4 D5 D6 D7 D8 D9 D10 E0 E1 E2 E3 E4 E5 E6 E7 E8 E9 E10 HBX;go_wp2_with fail
    go_roundw
    case rel=>exact⟨i+1,by go_num,by omega,HB9⟩
    simp[a2_];omega
   have HEx:=hi_ hE2;have s1:(hb==u2)=false:=bn_ hE2;have s2:(hb != u2)=true:=bne_iff_ne.2 hE2;clear hE2;refine af_ (by kernel_rfl) (by kernel_rfl) ?_;try simp only[List.append_eq,List.cons_append,List.nil_append]
   repeat (go_big_quiet_step (first|(go_at_call_of 61 (Value.int .i64 yt);exact Calls.later_same (Q1.o _ (HBX.o _)))|(go_at_call_of 61 (Value.int .i64 yn);exact Calls.later_same (Q2.o _ (HBX.o _)))|(go_at_call_of 61 (Value.int .i64 yp);exact Calls.later_same (Q3.o _ (HBX.o _)))|(go_at_call_of 61 (Value.int .i64 yx);exact Calls.later_same (Q4.o _ (HBX.o _)))))
   refine wq_ (fun dq=>?_);have HB9:=bt_ HBw dq.h;generalize dq.w=w9 at *;clear Q1 Q2 Q3 Q4 HBX;go_wp2_with fail
   exact bodyPost_ret (v:=.bool false) (by simp[results,Tryz.results74,go_sem]) rfl (Or.inl ⟨rfl,fun e=>HEx.o (HBk.o e).2,HB9.o⟩)
  have HEx:=hi_ hE;have s3:¬od.toList=od2.toList:=fun e=>hE (by
   rw[Lib.toList_data od,Lib.toList_data od2]at e
   cases od
   cases od2
   exact congrArg ByteArray.mk (Array.toList_inj.1 e))
  have s1:(od.toList==od2.toList)=false:=bn_ s3;have s2:(od.toList != od2.toList)=true:=bne_iff_ne.2 s3;clear hE;refine af_ (by kernel_rfl) (by kernel_rfl) ?_;try simp only[List.append_eq,List.cons_append,List.nil_append]
  repeat (go_big_quiet_step (first|(go_at_call_of 61 (Value.int .i64 yt);exact Calls.later_same (Q1.o _ (HBX.o _)))|(go_at_call_of 61 (Value.int .i64 yn);exact Calls.later_same (Q2.o _ (HBX.o _)))|(go_at_call_of 61 (Value.int .i64 yp);exact Calls.later_same (Q3.o _ (HBX.o _)))|(go_at_call_of 61 (Value.int .i64 yx);exact Calls.later_same (Q4.o _ (HBX.o _)))))
  refine wq_ (fun dq=>?_);have HB9:=bt_ HBw dq.h;generalize dq.w=w9 at *;clear Q1 Q2 Q3 Q4 HBX;go_wp2_with fail
  exact bodyPost_ret (v:=.bool false) (by simp[results,Tryz.results74,go_sem]) rfl (Or.inl ⟨rfl,fun e=>HEx.o (HBk.o e).1,HB9.o⟩)
 have hnl:¬(i:Int)<(l.length:Int):=by omega
 go_wp2_with fail
 exact bodyPost_ret (v:=.bool true) (by simp[results,Tryz.results74,go_sem]) rfl (Or.inr ⟨rfl,HBi.o⟩)
theorem cx_{w0 w:World}{X:Tw}(h:Mid w0 w X)(hl:0<X.m.length)(l:List Rec)(b1 b2:Nat)(v v2:Value)(hr:aD_ X.T X.pos b1 w v l)(hr2:aI_ b2 w v2 l)(hk1:l.length<=1000)
  (hn:∀r,r∈l->has X.m r.target=true/\(∀i,r.node=some i->has X.m i=true)/\(∀i,r.prev=some i->has X.m i=true)/\(∀i,r.next=some i->has X.m i=true)) :
  Calls Tryz.prog 74 #[.pointer (some ⟨X.tb,0,none⟩),v,v2] w fun e w'=>e=.returned (.bool true)/\Below w.heap.size w w':=by
 refine(f2_ h hl l l b1 b2 v v2 hr hr2 rfl hk1 (fun i h1 h2=>⟨_,_,rfl⟩) hn).mono ?_;rintro e w' ⟨b,h1,h2,h3⟩;rw[h2 rfl]at h1;exact⟨h1,h3⟩
end A
end
end Go.Proofs.YtinphfpdfodkkaaGreatDoor
