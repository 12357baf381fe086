/- Texts. -/
import Derived.Test.YtinphfpdfodkkaaGreatDoorS17
set_option linter.unusedVariables false
set_option linter.unusedSimpArgs false
set_option maxHeartbeats 8000000
set_option maxRecDepth 100000
namespace Go.Proofs.YtinphfpdfodkkaaGreatDoor
section
open Go.RowKit Go.Sort
namespace R
open H G A
theorem ab_.slice{α:Type}{c:α->List Value}{w:World}{B size:Nat}{e:TypeId}{v:Value}{l:List α}(h:ab_ c B e size w v l):∃ao cap,v=.slice ao l.length cap:=by
 rcases h.2 with⟨h1,h2⟩|⟨g,cap,cur,h1,_⟩
 ·exact⟨none,0,by rw[h1,h2]⟩
 exact⟨_,cap,h1⟩
theorem mFind(M:aJ_)(h:Nat)(nm:List UInt8)(w:World)(hM:ac_ w M)(hh:h<M.nodes.length)(hl:(nd M.m h).attrs.length<=1000000) :
  Calls Tryz.prog 128 #[.pointer (some ⟨M.mb,0,none⟩),.int .i64 h,.string ⟨nm.toArray⟩] w fun e w'=>e=.returned (.int .i64 (hL_ (bj_ M.m h nm)))/\w=w':=by
 obtain⟨c0,l0,l1⟩:=hM.top;have k2:=(hM.cell hh).2.2.1;have n1:(h:Int)<(M.nodes.length:Int):=by omega
 have hfew:=hM.few;have hrow:=hM.attrsRow hh;obtain⟨ao,cap,hv⟩:=ab_.slice hrow;rw[hv]at k2 hrow;obtain⟨S,hS⟩:∃S:ByteArray,S=⟨nm.toArray⟩:=⟨_,rfl⟩;rw[<-hS];have HEq:Hd (∀x:List UInt8,((⟨x.toArray⟩:ByteArray).toList==S.toList)=(x==nm)):=hi_ (fun x=>by rw[hS,Lib.toList_data,Lib.toList_data]);have HR:Hd (hL_ (bj_ M.m h nm)=hL_ ((nd M.m h).attrs.findIdx? (fun a=>a.1==nm))):=hi_ rfl;generalize hL_ (bj_ M.m h nm)=R at *;generalize (nd M.m h).attrs=l at *;have HA:=hi_ hrow;clear hM hv hrow hS
 go_enter Tryz.func128,Tryz.ntmps128
 go_wp2_with fail
 go_loopw [7] (fun v7 wr=>∃i:Nat,v7=.int .i64 (i:Nat)/\i<=l.length/\wr=w/\Hd (∀j a,j<i->l[j]?=some a->(a.1==nm)=false)) (fun v7 _=>l.length-(Go.RowKit.intOf v7).toNat)
 case atStart=>exact⟨0,rfl,Nat.zero_le _,rfl,hi_ (fun j a hj=>by omega)⟩
 obtain⟨i,rfl,hi,rfl,HN⟩:=hrel
 rcases Nat.lt_or_ge i l.length with hlt|hge
 ·have hii:(i:Int)<(l.length:Int):=by omega
  obtain⟨g0,cap',hv,hgb,hgl,_⟩:=a1_ HA.o (by omega);injection hv with e1 _ e3
  subst e1 e3;have hc0:=(ab_.cell ar_ HA.o hlt (k:=0) (by omega)).1;have HD:Hd (l.drop i=l[i] :: l.drop (i+1)):=hi_ (List.drop_eq_getElem_cons hlt);have HG:Hd (l[i]?=some l[i]):=hi_ (List.getElem?_eq_getElem hlt);generalize l[i]=a at *;obtain⟨x,y⟩:=a;have k0:wr.cell? ⟨g0,i*2,none⟩=some (.string ⟨x.toArray⟩):=hc0;have heq:=HEq.o x;have wq:IntKind.i64.wrap ((i:Int)+1)=(i:Int)+1:=IntWalk.i64_in _ (by omega);generalize (⟨x.toArray⟩:ByteArray)=X at *;clear hc0
  cases hq:(x==nm) with
  |true=>
   rw[hq]at heq;have HF:Hd (R=(i:Int)):=hi_ (by rw[HR.o,eU_ HN.o,HD.o,List.findIdx?_cons];dsimp only;rw[hq];simp[hL_]);clear hq HD;go_wp2_with fail
   go_ret
   exact⟨aE_ HF.o.symm,rfl⟩
  |false=>
   rw[hq]at heq;have HN2:Hd (∀j a,j<i+1->l[j]?=some a->(a.1==nm)=false):=hi_ (fun j a hj ha=>by
    by_cases e:j=i
    ·subst e
     rw[HG.o]at ha;injection ha with ha
     rw[<-ha];exact hq
    exact HN.o j a (by omega) ha)
   clear hq HD;go_wp2_with fail
   go_roundw
   case rel=>exact⟨i+1,by go_num,by omega,trivial,HN2⟩
   simp[Go.RowKit.intOf];omega
 have hnl:¬(i:Int)<(l.length:Int):=by omega
 have HF:Hd (R=-1):=hi_ (by rw[HR.o,eU_ HN.o,List.drop_eq_nil_of_le (by omega)];rfl);go_wp2_with fail
 go_ret
 exact⟨aE_ HF.o.symm,rfl⟩
structure gu_(w:World)(M:aJ_)(i:Nat):Prop where
 blk:Blk M.mb #[.slice (some ⟨M.g,0,none⟩) M.nodes.length M.cap] 102 w
 row:ab_ bU_ M.B 105 7 w (.slice (some ⟨M.g,0,none⟩) M.nodes.length M.cap) M.nodes
 few:M.nodes.length<=1000000
 bb:M.B<=M.mb
 kids:∀x,x∈M.nodes->cd_ M.B w x.kv x.n.kids
 attrs:∀j,j<M.nodes.length->j≠i->ab_ aj_ M.B 143 2 w (M.at_ j).av (M.at_ j).n.attrs
 kapart:∀i j,i<M.nodes.length->j<M.nodes.length->i≠j->∀g,(M.at_ i).kv.ownBlock=some g->(M.at_ j).kv.ownBlock≠some g
 aapart:∀i j,i<M.nodes.length->j<M.nodes.length->i≠j->∀g,(M.at_ i).av.ownBlock=some g->(M.at_ j).av.ownBlock≠some g
theorem ac_.rest{w w':World}{M:aJ_}{i:Nat}(h:ac_ w M)(hi:i<M.nodes.length)(f:H.Frame (fun k=>(M.at_ i).av.ownBlock=some k) w w'):gu_ w' M i:=by
 have ha:=h.attrs _ (aJ_.at_mem hi).2;refine⟨h.blk.frame f (fun e=>ai_ ha h.blk (by decide) e),ak_ h.row f (fun g hg e=>aQ_ ha h.row (by decide) e hg),h.few,h.bb,fun x hx=>ak_ (h.kids x hx) f (fun g hg e=>aQ_ ha (h.kids x hx) (by decide) e hg),fun j hj hne=>ak_ (h.attrs _ (aJ_.at_mem hj).2) f (fun g hg e=>h.aapart i j hi hj (fun e2=>hne e2.symm) g e hg),h.kapart,h.aapart⟩
theorem d5_{M:aJ_}{i:Nat}{f:b0_->b0_}(x:b0_)(hx:x∈(M.modN i f).nodes):∃j,j<M.nodes.length/\(M.modN i f).at_ j=x:=by
 obtain⟨j,hj⟩:=List.mem_iff_getElem?.1 hx;have hjl:j<(M.modN i f).nodes.length:=by
  rcases Nat.lt_or_ge j (M.modN i f).nodes.length with h5|h5
  ·exact h5
  rw[List.getElem?_eq_none h5]at hj;cases hj
 refine⟨j,by rw[<-cC_ M i f];exact hjl,?_⟩;rw[(aJ_.at_mem hjl).1];rw[List.getElem?_eq_getElem hjl]at hj;injection hj
theorem gu_.same{w:World}{M:aJ_}{i:Nat}(h:gu_ w M i)(hi:i<M.nodes.length){al:List BB}(hr:ab_ aj_ M.B 143 2 w (M.at_ i).av al) :
  ac_ w (M.modN i fun x=>{ x with n:={ x.n with attrs:=al } }):=by
 have hlen:=cC_ M i (fun x=>{ x with n:={ x.n with attrs:=al } });have hat:=fh_ (f:=fun x=>{ x with n:={ x.n with attrs:=al } }) hi;have hkv:∀j,((M.modN i fun x=>{ x with n:={ x.n with attrs:=al } }).at_ j).kv=(M.at_ j).kv:=fun j=>by rw[hat];split<;>rfl
 have hav:∀j,((M.modN i fun x=>{ x with n:={ x.n with attrs:=al } }).at_ j).av=(M.at_ j).av:=fun j=>by rw[hat];split<;>rfl
 refine⟨?_,?_,by rw[hlen];exact h.few,h.bb,fun x hx=>?_,fun x hx=>?_,fun a b ha hb hne g hg=>?_,fun a b ha hb hne g hg=>?_⟩
 ·rw[hlen];exact h.blk
 ·have e:(M.modN i fun x=>{ x with n:={ x.n with attrs:=al } }).nodes.flatMap bU_=M.nodes.flatMap bU_:=by
   unfold aJ_.modN;have:∀(l:List b0_) (i:Nat),(l.modify i (fun x=>{ x with n:={ x.n with attrs:=al } })).flatMap bU_=l.flatMap bU_:=by
    intro l
    induction l with
    |nil=>intro i;simp
    |cons y t ih=>
     intro i
     cases i with
     |zero=>simp[bU_]
     |succ i=>rw[List.modify_succ_cons,List.flatMap_cons,List.flatMap_cons,ih]
   exact this _ _
  unfold ab_;rw[hlen,e];exact h.row
 ·obtain⟨j,hj,rfl⟩:=d5_ x hx
  have h1:=h.kids _ (aJ_.at_mem hj).2;rw[hat]
  split<;>exact h1
 ·obtain⟨j,hj,rfl⟩:=d5_ x hx
  rw[hat]
  by_cases e:j=i
  ·rw[if_pos e,e];exact hr
  rw[if_neg e];exact h.attrs j hj e
 ·rw[hkv]at hg ⊢
  exact h.kapart a b (by rw[<-hlen];exact ha) (by rw[<-hlen];exact hb) hne g hg
 rw[hav]at hg ⊢;exact h.aapart a b (by rw[<-hlen];exact ha) (by rw[<-hlen];exact hb) hne g hg
theorem gu_.put{w:World}{M:aJ_}{i:Nat}(h:gu_ w M i)(hi:i<M.nodes.length){av:Value}{al:List BB}(hr:ab_ aj_ M.B 143 2 w av al)(hap:∀j,j<M.nodes.length->j≠i->∀g,av.ownBlock=some g->(M.at_ j).av.ownBlock≠some g) :
  ac_ (w.setCell ⟨M.g,i*7+2,none⟩ av) (M.modN i fun x=>{ x with av:=av,n:={ x.n with attrs:=al } }):=by
 have hlen:=cC_ M i (fun x=>{ x with av:=av,n:={ x.n with attrs:=al } });have hat:=fh_ (f:=fun x=>{ x with av:=av,n:={ x.n with attrs:=al } }) hi;have hkv:∀j,((M.modN i fun x=>{ x with av:=av,n:={ x.n with attrs:=al } }).at_ j).kv=(M.at_ j).kv:=fun j=>by rw[hat];split<;>rfl
 have hg1:M.mb≠M.g:=fun e=>ai_ h.row h.blk (by decide) (by rw[e];rfl);refine⟨?_,?_,by rw[hlen];exact h.few,h.bb,fun x hx=>?_,fun x hx=>?_,fun a b ha hb hne g hg=>?_,fun a b ha hb hne g hg=>?_⟩
 ·rw[hlen];exact h.blk.far hg1 _ _
 ·exact ab_.store aV_ h.row hi (by omega) av _ rfl
 ·obtain⟨j,hj,rfl⟩:=d5_ x hx
  have h1:=h.kids _ (aJ_.at_mem hj).2;have h2:=au_ h1 (fun e=>aQ_ h1 h.row (by decide) e rfl) (i*7+2) av;rw[hat]
  split<;>exact h2
 ·obtain⟨j,hj,rfl⟩:=d5_ x hx
  rw[hat]
  by_cases e:j=i
  ·rw[if_pos e]
   exact au_ hr (fun e=>aQ_ hr h.row (by decide) e rfl) (i*7+2) av
  rw[if_neg e];have h1:=h.attrs j hj e;exact au_ h1 (fun e=>aQ_ h1 h.row (by decide) e rfl) (i*7+2) av
 ·rw[hkv]at hg ⊢
  exact h.kapart a b (by rw[<-hlen];exact ha) (by rw[<-hlen];exact hb) hne g hg
 have ha':a<M.nodes.length:=by rw[<-hlen];exact ha
 have hb':b<M.nodes.length:=by rw[<-hlen];exact hb
 rw[hat]at hg ⊢
 by_cases ea:a=i
 ·rw[if_pos ea]at hg
  rw[if_neg (fun e=>hne (ea.trans e.symm))];exact hap b hb' (fun e=>hne (ea.trans e.symm)) g hg
 rw[if_neg ea]at hg
 by_cases eb:b=i
 ·rw[if_pos eb]
  exact fun h5=>hap a ha' ea g h5 hg
 rw[if_neg eb];exact h.aapart a b ha' hb' hne g hg
theorem eI_{base:Nat}{w:World}{r:Rec}{cs:Array Value}(hc:cs=(aX_ r).toArray)(hb:base<=w.heap.size):aI_ base (w.alloc (.cells cs 71)) (.slice (some ⟨w.heap.size,0,none⟩) 1 1) [r]:=by
 have hown:=World.ownsRow_lit (e:=71) (base:=base) (size:=11) w (aX_ r).toArray 1 hb (by unfold maxLen;omega) (by simp[eq_]);unfold aI_ ab_;rw[hc,show[r].flatMap aX_=aX_ r by simp];simpa using hown
theorem eP_:(Tryz.prog.info? 143).map (fun i=>(i.zero,i.size,i.bytes))=some (some (.agg #[.string ⟨#[]⟩,.string ⟨#[]⟩]),2,32):=by kernel_rfl
theorem kF_(m:aa_)(h:Nat)(nm vl:List UInt8) :
  ((nd m h).kind≠2->az_ none m h nm vl=([],10,m))/\((nd m h).kind=2->bE_ nm=false->az_ none m h nm vl=([],1,m)) ∧
  ((nd m h).kind=2->bE_ nm=true->bj_ m h nm=none->az_ none m h nm vl=([aM_ h nm [] false],0,upd m h fun x=>{ x with attrs:=x.attrs++[(nm,U.rep vl)] })) ∧
  (∀i,(nd m h).kind=2->bE_ nm=true->bj_ m h nm=some i->az_ none m h nm vl=([aM_ h nm (((nd m h).attrs[i]?.map (·.2)).getD []) true],0,upd m h fun x=>{ x with attrs:=x.attrs.set i (nm,U.rep vl) })):=by
 refine⟨fun h1=>?_,fun h1 h2=>?_,fun h1 h2 h3=>?_,fun i h1 h2 h3=>?_⟩
 ·unfold az_;rw[if_pos h1]
 ·unfold az_;rw[if_neg (by simp[h1]),if_pos h2]
 ·unfold az_;rw[if_neg (by simp[h1]),if_neg (by simp[h2]),h3];simp
 unfold az_;rw[if_neg (by simp[h1]),if_neg (by simp[h2]),h3]
theorem jD_{m:aa_}{i:Nat}{f g:G.Node->G.Node}(hi:i<m.length)(h:f (nd m i)=g (nd m i)):upd m i f=upd m i g:=by
 refine du_ (by simp[upd]) fun j=>?_;rw[cn_ hi,cn_ hi]
 by_cases e:j=i
 ·rw[if_pos e,if_pos e,e,h]
 rw[if_neg e,if_neg e]
theorem n3_(M:aJ_)(h:Nat)(nm vl:List UInt8)(w:World)(hM:ac_ w M)(hh:h<M.nodes.length)(hl:(nd M.m h).attrs.length<=100000)(hn:nm.length<=100000)(hv:vl.length<=100000) :
  Calls Tryz.prog 66 #[.pointer (some ⟨M.mb,0,none⟩),.int .i64 h,.string ⟨nm.toArray⟩,.string ⟨vl.toArray⟩] w fun e w'=>∃v M',e=.returned (.tuple #[v,.int .i64 ((az_ none M.m h nm vl).2.1:Nat)])/\H.Frame M.foot w w'/\ac_ w' M'/\M'.m=(az_ none M.m h nm vl).2.2/\aO_ w M M'/\aI_ w.heap.size w' v (az_ none M.m h nm vl).1:=by
 obtain⟨c0,l0,l1⟩:=hM.top;have k0:=(hM.cell hh).1;have n1:(h:Int)<(M.nodes.length:Int):=by omega
 have hfew:=hM.few;have HM:=hi_ hM;have QH:=hi_ (fun W=>mj_ nm W hn);have QR:=hi_ (fun W=>dp_ vl W (by omega));have QF:=hi_ (fun W (hb:Below w.heap.size w W)=>mFind M h nm W (hM.below hb) hh (by omega));have HSC:=hi_ (kF_ M.m h nm vl);obtain⟨R,hR⟩:∃R,R=az_ none M.m h nm vl:=⟨_,rfl⟩;rw[<-hR]at HSC ⊢;generalize hkd:(nd M.m h).kind=kd at *;clear hM hR hkd
 go_enter Tryz.func66,Tryz.ntmps66
 by_cases hk:kd=2
 ·subst hk
  go_wp2_with fail
  refine(QH.o _).mono ?_;rintro e w1 ⟨rfl,b1⟩;have HB1:=hi_ b1;clear b1 QH
  cases hok:bE_ nm with
  |false=>
   have HRs:=hi_ (HSC.o.2.1 trivial hok);clear hok;go_wp2_with fail
   refine bodyPost_ret (v:=.tuple #[.slice none 0 0,.int .i64 1]) (by simp[results,Tryz.results66,go_sem]) rfl ⟨.slice none 0 0,M,by rw[HRs.o];rfl,H.Frame.of HB1.o,HM.o.below HB1.o,by rw[HRs.o],aO_.refl _ _,by rw[HRs.o];exact aI_.nil _ _⟩
  |true=>
   have HS3:=hi_ (HSC.o.2.2.1 trivial hok);have HS4:=hi_ (fun i=>HSC.o.2.2.2 i trivial hok);clear hok;go_wp2_with fail
   refine(QR.o _).mono ?_;rintro e w2 ⟨rfl,b2⟩;have HB2:=bt_ HB1 b2;clear b2 HB1 QR;obtain⟨rv,hrv⟩:∃rv,rv=U.rep vl:=⟨_,rfl⟩;rw[<-hrv]at HS3 HS4 ⊢;clear hrv;have Q3:=hi_ (QF.o w2 HB2.o);clear QF HSC;go_wp2_with fail
   refine Q3.o.mono ?_;rintro e w2' ⟨rfl,rfl⟩;have HM2:=hi_ (HM.o.below HB2.o);obtain⟨c0',l0',l1'⟩:=HM2.o.top;have k2:=(HM2.o.cell hh).2.2.1;have hrow:=HM2.o.attrsRow hh;obtain⟨ao,cap,hav⟩:=ab_.slice hrow;have f2:=(ab_.cell aV_ HM2.o.row hh (k:=2) (by omega)).2;rw[hav]at k2 hrow;have HAv:=hi_ hav;have HRow:=hi_ hrow;clear c0 l0 l1 k0 hrow hav Q3
   cases hat:bj_ M.m h nm with
   |none=>
    have HRs:=hi_ (HS3.o hat);clear hat HS3 HS4;rw[show hL_ none=(-1:Int)from rfl];go_upto_region 12 with fail
    have HRec:=hi_ (Blk.new w2 #[.int .i64 3,.int .i64 h,.int .i64 (-1),.int .i64 (-1),.int .i64 (-1),.int .i64 0,.string ⟨nm.toArray⟩,.string ⟨#[]⟩,.bool false,.int .i64 0,.int .i64 0] 71);have hbE:Below w2.heap.size w2 (w2.alloc (.cells #[.int .i64 3,.int .i64 h,.int .i64 (-1),.int .i64 (-1),.int .i64 (-1),.int .i64 0,.string ⟨nm.toArray⟩,.string ⟨#[]⟩,.bool false,.int .i64 0,.int .i64 0] 71)):=(Below.refl _ w2).alloc (nl_) _;have HBE:=bt_ HB2 hbE;have HME:=hi_ (HM.o.below HBE.o);have HRowE:=hi_ (own_below HRow.o hbE);have HA2:Hd (w.heap.size<=w2.heap.size):=hi_ HB2.o.size;clear hbE k2 f2 c0' l0' l1';generalize hEE:w2.heap.size=E at *;clear hEE
    generalize w2.alloc (.cells #[.int .i64 3,.int .i64 h,.int .i64 (-1),.int .i64 (-1),.int .i64 (-1),.int .i64 0,.string ⟨nm.toArray⟩,.string ⟨#[]⟩,.bool false,.int .i64 0,.int .i64 0] 71)=wE at *;obtain⟨c0,l0,l1⟩:=HME.o.top;have k2:=(HME.o.cell hh).2.2.1;have f2:=(ab_.cell aV_ HME.o.row hh (k:=2) (by omega)).2;rw[HAv.o]at k2;obtain⟨i0,hi0,hz0,hz1,hz2⟩:=info_parts eP_;have HHn:Hd ((M.at_ h).av.ownBlock=(Value.slice ao (nd M.m h).attrs.length cap).ownBlock):=hi_ (by rw[HAv.o]);generalize hal:(nd M.m h).attrs=al at *;have HAl:=hi_ hal
    have hne1:∀g,(Value.slice ao al.length cap).ownBlock=some g->g≠M.mb/\g≠M.g/\g≠E:=fun g hg=>⟨fun e=>ai_ HRowE.o HME.o.blk (by decide) (by rw[hg,e]),fun e=>aQ_ HRowE.o HME.o.row (by decide) hg (by rw[e];rfl),fun e=>ai_ HRowE.o HRec.o (by decide) (by rw[hg,e])⟩;have HNe:=hi_ hne1;clear hal hne1
    go_region_law ((refine step_append_lies _ (by rfl) _ _ _ (by rfl) M.B 143 i0 _ 2 32 Tryz.underlying103 hi0 hz0 hz1 hz2 rfl (by omega) (.slice ao al.length cap) al.length (al.flatMap aj_) (by rfl) ((World.ownsRow.alloc HRowE.o _).drew) ⟨wE.heap.size,0,none⟩ 1 1 [.string ⟨nm.toArray⟩,.string ⟨rv.toArray⟩] (by rfl) (by rfl) (World.news_of_block (cs:=#[.string ⟨nm.toArray⟩,.string ⟨rv.toArray⟩]) (t:=143) (fr:=(0,0)) (heap_alloc_new wE _)) (by simp[Value.oneCell']) (by omega) (by unfold maxLen;omega) (by omega) (by have:=HME.o.bb;simp;omega) (wE.heap.size+1) (by simp) ?_;intro gg cap2 w5 hown5 hgrow hat5 hlt5;have hF5:H.Frame (fun k=>(M.at_ h).av.ownBlock=some k) wE w5:=H.Frame.grown (S:=fun k=>(M.at_ h).av.ownBlock=some k) (Frame.drew (Frame.alloc (H.Frame.refl _ wE) _)) hgrow (fun k hk=>Or.inl (by rw[HHn.o];exact hk));have hRs:=HME.o.rest hh hF5;have d0:=(ae_ hRs.blk).1 0;have m0:=hRs.blk.lt;have m1:=(ad_ hRs.row).1;have g2:=(ab_.cell aV_ hRs.row hh (k:=2) (by omega)).2;have j2:w5.cell? ⟨M.g,h*7+2,none⟩=some (.slice ao al.length cap):=(by rw[(ab_.cell aV_ hRs.row hh (k:=2) (by omega)).1,<-HAv.o,(aJ_.at_mem hh).1];rfl)))
    all_goals (
     have HRs5:=hi_ hRs;have hB5:w.heap.size<=wE.heap.size:=HBE.o.size;have HAt5:Hd ((M.at_ h).av.ownBlock=some gg\/w.heap.size<=gg):=hi_ (by rw[HHn.o];exact hat5.imp id (fun e=>by omega));have HAt6:Hd (∀j,j<M.nodes.length->j≠h->∀g,(Value.slice (some ⟨gg,0,none⟩) (al.length+1) cap2).ownBlock=some g->(M.at_ j).av.ownBlock≠some g):=hi_ (fun j hj hne g hg e=>by
      have hgg:gg=g:=by simpa[Value.ownBlock]using hg
      subst hgg
      rcases hat5 with h5|h5
      ·exact HME.o.aapart h j hh hj (fun e2=>hne e2.symm) gg (by rw[HHn.o];exact h5) e
      have:=(World.ownsRow.lt (HME.o.attrs _ (aJ_.at_mem hj).2) gg e).2
      omega)
     have HM6:=hi_ (hRs.put hh (av:=.slice (some ⟨gg,0,none⟩) (al.length+1) cap2) (al:=al++[(nm,rv)]) (by
      unfold ab_;rw[List.length_append,List.flatMap_append];simpa[aj_]using hown5) HAt6.o)
     have HF6:=hi_ (Frame.set (S:=M.foot) ((H.Frame.of (S:=M.foot) HBE.o).trans hF5 (fun b hb=>Or.inl (Or.inr (Or.inr ⟨_,(aJ_.at_mem hh).2,Or.inr hb⟩)))) (Or.inl (Or.inr (Or.inl rfl))) (h*7+2) (.slice (some ⟨gg,0,none⟩) (al.length+1) cap2));have HRc5:=hi_ ((HRec.o.frame hF5 (fun e=>by rw[HHn.o]at e;exact(HNe.o _ e).2.2 rfl)).far (show E≠M.g from fun e=>ai_ HME.o.row HRec.o (by decide) (by rw[e];rfl)) (h*7+2) (.slice (some ⟨gg,0,none⟩) (al.length+1) cap2));have HL6:Hd (aO_ w M (M.modN h fun x=>{ x with av:=.slice (some ⟨gg,0,none⟩) (al.length+1) cap2,n:={ x.n with attrs:=al++[(nm,rv)] } })):=hi_ ⟨rfl,rfl,fun k hk=>by
      rcases b5_ hh hk with h1|h1|h1
      ·exact Or.inl h1
      ·exact Or.inl (Or.inr (Or.inr ⟨_,(aJ_.at_mem hh).2,Or.inl h1⟩))
      have hgg:gg=k:=by
       have h1:(Value.slice (some ⟨gg,0,none⟩) (al.length+1) cap2).ownBlock=some k:=h1;simpa[Value.ownBlock]using h1
      rw[<-hgg];exact HAt5.o.imp (fun e=>Or.inr (Or.inr ⟨_,(aJ_.at_mem hh).2,Or.inr e⟩)) id⟩
     have Hm6:Hd ((M.modN h fun x=>{ x with av:=.slice (some ⟨gg,0,none⟩) (al.length+1) cap2,n:={ x.n with attrs:=al++[(nm,rv)] } }).m=upd M.m h fun x=>{ x with attrs:=x.attrs++[(nm,rv)] }):=hi_ (by
      rw[el_ M h _ (fun x=>{ x with attrs:=al++[(nm,rv)] }) (fun x=>rfl)];refine jD_ (by rw[M.m_len];exact hh) ?_;rw[HAl.o])
     generalize (M.modN h fun x=>{ x with av:=.slice (some ⟨gg,0,none⟩) (al.length+1) cap2,n:={ x.n with attrs:=al++[(nm,rv)] } })=M6 at *;clear hown5 hgrow hat5 hF5 hRs d0 m0 m1 g2 j2 hlt5 k2 f2 c0 l0 l1 HAt6 HRs5 HNe HHn HRowE HRec HAv;generalize World.setCell w5 ⟨M.g,h*7+2,none⟩ _=w9 at *;obtain⟨⟨r0,r1,r2,r3,r4,r5,r6,r7,r8,r9,r10⟩,_⟩:=bq_ HRc5.o;have hlE:=HRc5.o.lt;go_wp2_with fail
     have hrec:=eI_ (base:=w.heap.size) (w:=w9) (r:=aM_ h nm [] false) (cs:=#[.int .i64 3,.int .i64 h,.int .i64 (-1),.int .i64 (-1),.int .i64 (-1),.int .i64 0,.string ⟨nm.toArray⟩,.string ⟨#[]⟩,.bool false,.int .i64 0,.int .i64 0]) rfl HF6.o.size;refine bodyPost_ret (v:=.tuple #[.slice (some ⟨w9.heap.size,0,none⟩) 1 1,.int .i64 0]) (by simp[results,Tryz.results66,go_sem]) rfl ⟨_,M6,by rw[HRs.o];rfl,HF6.o.alloc _,HM6.o.below ((br_).alloc (nl_) _),by rw[HRs.o];exact Hm6.o,HL6.o,by rw[HRs.o];exact hrec⟩)
   |some i=>
    have HRs:=hi_ (HS4.o i hat);rw[show hL_ (some i)=(i:Int)from rfl];obtain⟨hil,hnm,old,hold⟩:∃hil:i<(nd M.m h).attrs.length,((nd M.m h).attrs[i]'hil).1=nm/\∃old,((nd M.m h).attrs[i]'hil).2=old:=by
     unfold bj_ at hat;rw[List.findIdx?_eq_some_iff_getElem]at hat;obtain⟨h1,h2,_⟩:=hat;exact⟨h1,by simpa using h2,_,rfl⟩
    have HOld:Hd ((((nd M.m h).attrs[i]?.map (·.2)).getD [])=old):=hi_ (by rw[List.getElem?_eq_getElem hil];exact hold);have HSet:Hd ((nd M.m h).attrs.modify i (fun a=>(a.1,rv))=(nd M.m h).attrs.set i (nm,rv)):=hi_ (by
     refine List.ext_getElem? fun j=>?_;rw[List.getElem?_modify,List.getElem?_set]
     by_cases e:i=j
     ·subst e
      rw[List.getElem?_eq_getElem hil];simp[hil,hnm]
     simp[e])
    obtain⟨ga,cap',hv',hga1,hga2,_⟩:=a1_ HRow.o (by omega);injection hv' with e1 _ e3
    subst e1 e3;have hc1:=(ab_.cell ar_ HRow.o hil (k:=1) (by omega)).1;have hf1:=(ab_.cell ar_ HRow.o hil (k:=1) (by omega)).2;have hc1':w2.cell? ⟨ga,i*2+1,none⟩=some (.string ⟨old.toArray⟩):=by
     have h1:w2.cell? ⟨ga,i*2+1,none⟩=some (.string ⟨((nd M.m h).attrs[i]).2.toArray⟩):=hc1;rw[hold]at h1;exact h1
    have hii:(i:Int)<((nd M.m h).attrs.length:Int):=by omega
    have HHn:Hd ((M.at_ h).av.ownBlock=some ga):=hi_ (by rw[HAv.o];rfl);generalize hal:(nd M.m h).attrs=al at *;have HAl:=hi_ hal;have HF1:=hi_ hf1;have HIl:=hi_ hil;clear hat HS3 HS4 hc1 hf1 hnm hold hal hil;go_upto_region 11 with fail
    have HRec:=hi_ (Blk.new w2 #[.int .i64 3,.int .i64 h,.int .i64 (-1),.int .i64 (-1),.int .i64 (-1),.int .i64 0,.string ⟨nm.toArray⟩,.string ⟨old.toArray⟩,.bool true,.int .i64 0,.int .i64 0] 71);have hbE:Below w2.heap.size w2 (w2.alloc (.cells #[.int .i64 3,.int .i64 h,.int .i64 (-1),.int .i64 (-1),.int .i64 (-1),.int .i64 0,.string ⟨nm.toArray⟩,.string ⟨old.toArray⟩,.bool true,.int .i64 0,.int .i64 0] 71)):=(Below.refl _ w2).alloc (nl_) _;have HBE:=bt_ HB2 hbE;have HME:=hi_ (HM.o.below HBE.o);have HRowE:=hi_ (own_below HRow.o hbE);clear hbE k2 f2 c0' l0' l1' hc1';generalize hEE:w2.heap.size=E at *;clear hEE
    generalize w2.alloc (.cells #[.int .i64 3,.int .i64 h,.int .i64 (-1),.int .i64 (-1),.int .i64 (-1),.int .i64 0,.string ⟨nm.toArray⟩,.string ⟨old.toArray⟩,.bool true,.int .i64 0,.int .i64 0] 71)=wE at *;obtain⟨c0,l0,l1⟩:=HME.o.top;have k2:=(HME.o.cell hh).2.2.1;rw[HAv.o]at k2;obtain⟨q1,q2⟩:=ab_.cell ar_ HRowE.o HIl.o (k:=1) (by omega);have q1':wE.cell? ⟨ga,i*2+1,none⟩=some (.string ⟨(al[i]'HIl.out).2.toArray⟩):=q1;have lga:=(ad_ HRowE.o).1;have HNE:=hi_ (fun e=>ai_ HRowE.o HRec.o (by decide) (by rw[e];rfl):ga≠E);have hF6:H.Frame (fun k=>(M.at_ h).av.ownBlock=some k) wE (wE.setCell ⟨ga,i*2+1,none⟩ (.string ⟨rv.toArray⟩)):=Frame.set (S:=fun k=>(M.at_ h).av.ownBlock=some k) (H.Frame.refl _ wE) (Or.inl HHn.o) _ _
    have HM6:=hi_ ((HME.o.rest hh hF6).same hh (al:=al.set i (nm,rv)) (by
     have h1:=ab_.store ar_ HRowE.o HIl.o (k:=1) (by omega) (.string ⟨rv.toArray⟩) (fun a=>(a.1,rv)) rfl;rw[HSet.o]at h1;rw[HAv.o];have h2:(al.set i (nm,rv)).length=al.length:=by simp
     rw[h2]at h1;exact h1))
    have HF6:=hi_ ((H.Frame.of (S:=M.foot) HBE.o).trans hF6 (fun b hb=>Or.inl (Or.inr (Or.inr ⟨_,(aJ_.at_mem hh).2,Or.inr hb⟩))));have HRc6:=hi_ (HRec.o.far (show E≠ga from fun e=>HNE.o e.symm) (i*2+1) (.string ⟨rv.toArray⟩));have HL6:Hd (aO_ w M (M.modN h fun x=>{ x with n:={ x.n with attrs:=al.set i (nm,rv) } })):=hi_ ⟨rfl,rfl,fun k hk=>by
     rcases b5_ hh hk with h1|h1|h1
     ·exact Or.inl h1
     ·exact Or.inl (Or.inr (Or.inr ⟨_,(aJ_.at_mem hh).2,Or.inl h1⟩))
     exact Or.inl (Or.inr (Or.inr ⟨_,(aJ_.at_mem hh).2,Or.inr h1⟩))⟩
    have Hm6:Hd ((M.modN h fun x=>{ x with n:={ x.n with attrs:=al.set i (nm,rv) } }).m=upd M.m h fun x=>{ x with attrs:=x.attrs.set i (nm,rv) }):=hi_ (by
     rw[el_ M h _ (fun x=>{ x with attrs:=al.set i (nm,rv) }) (fun x=>rfl)];refine jD_ (by rw[M.m_len];exact hh) ?_;rw[HAl.o])
    generalize (M.modN h fun x=>{ x with n:={ x.n with attrs:=al.set i (nm,rv) } })=M6 at *;clear q1 hF6 HHn HRow HSet;go_upto_region 13 with fail
    clear c0 l0 l1 k2 q1' q2 lga;generalize World.setCell wE ⟨ga,i*2+1,none⟩ _=w9 at *;obtain⟨⟨r0,r1,r2,r3,r4,r5,r6,r7,r8,r9,r10⟩,_⟩:=bq_ HRc6.o;have hlE:=HRc6.o.lt;go_wp2_with fail
    have hrec:=eI_ (base:=w.heap.size) (w:=w9) (r:=aM_ h nm old true) (cs:=#[.int .i64 3,.int .i64 h,.int .i64 (-1),.int .i64 (-1),.int .i64 (-1),.int .i64 0,.string ⟨nm.toArray⟩,.string ⟨old.toArray⟩,.bool true,.int .i64 0,.int .i64 0]) rfl HF6.o.size;rw[HOld.o]at HRs;refine bodyPost_ret (v:=.tuple #[.slice (some ⟨w9.heap.size,0,none⟩) 1 1,.int .i64 0]) (by simp[results,Tryz.results66,go_sem]) rfl ⟨_,M6,by rw[HRs.o];rfl,HF6.o.alloc _,HM6.o.below ((br_).alloc (nl_) _),by rw[HRs.o];exact Hm6.o,HL6.o,by rw[HRs.o];exact hrec⟩
 have HRs:=hi_ (HSC.o.1 hk);have e2:((kd:Int) != 2)=true:=bne_iff_ne.2 (by omega);clear hk;go_wp2_with fail
 refine bodyPost_ret (v:=.tuple #[.slice none 0 0,.int .i64 10]) (by simp[results,Tryz.results66,go_sem]) rfl ⟨.slice none 0 0,M,by rw[HRs.o];rfl,H.Frame.refl _ _,HM.o,by rw[HRs.o],aO_.refl _ _,by rw[HRs.o];exact aI_.nil _ _⟩
end R
end
end Go.Proofs.YtinphfpdfodkkaaGreatDoor
