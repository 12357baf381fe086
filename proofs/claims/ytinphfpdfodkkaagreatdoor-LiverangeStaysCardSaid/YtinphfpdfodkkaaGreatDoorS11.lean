/- Texts. -/
import Derived.Test.YtinphfpdfodkkaaGreatDoorS07
import Derived.Deep.MidRow
import Derived.Deep.RegionLaw
set_option linter.unusedVariables false
set_option linter.unusedSimpArgs false
set_option maxHeartbeats 8000000
set_option maxRecDepth 100000
namespace Go.Proofs.YtinphfpdfodkkaaGreatDoor
section
open Go.RowKit Go.Sort
namespace A
open H G
theorem mx_:(Tryz.prog.info? 73).map (fun i=>(i.zero,i.size,i.bytes))=some (some (.agg #[.int .i64 0,.int .i64 0,.int .i64 0,.int .i64 0,.int .i64 0,.int .i64 0,.string ⟨#[]⟩,.string ⟨#[]⟩,.bool false,.int .i64 0,.int .i64 0]),11,104):=by kernel_rfl
def aD_(T:am_)(pos:Nat->Nat)(base:Nat)(w:World)(v:Value)(l:List Rec):Prop:=ab_ (av_ T pos) base 73 11 w v l
theorem fR_{T T':am_}{pos:Nat->Nat}(h1:T'.bs=T.bs)(h2:T'.st=T.st)(r:Rec):av_ T' pos r=av_ T pos r:=by
 unfold av_;have e0:∀o,hdO T' pos o=hdO T pos o:=d8_ h1 h2;have e1:hd T' pos r.target=hd T pos r.target:=e0 (some r.target);rw[e0,e0,e0,e1]
theorem aD_.nil(T:am_)(pos:Nat->Nat)(base:Nat)(w:World):aD_ T pos base w (.slice none 0 0) []:=World.ownsRow_nil _ _ _ _
theorem aD_.form{T:am_}{pos:Nat->Nat}{base:Nat}{w:World}{v:Value}{l:List Rec}(h:aD_ T pos base w v l):∃ao cap,v=.slice ao l.length cap:=by
 unfold aD_ ab_ at h
 rcases h.2 with⟨h1,h2⟩|⟨g,cap,cur,h1,_⟩
 ·exact⟨none,0,by rw[h1,h2]⟩
 exact⟨_,cap,h1⟩
theorem g0_{T:am_}{pos:Nat->Nat}(r:Rec):∀u∈av_ T pos r,u.oneCell'=true:=by
 intro u hu;unfold av_ at hu;simp only[List.mem_cons,List.not_mem_nil,or_false]at hu
 rcases hu with rfl|rfl|rfl|rfl|rfl|rfl|rfl|rfl|rfl|rfl|rfl<;>rfl
theorem al_.grown{w w':World}{T:am_}(h:al_ w T){base size n:Nat}{e:TypeId}{v:Value}{xs:List Value}(hr:w.ownsRow base e size v n xs)(hg:w.grownBy w' v.ownBlock)(h1:92≠e)(h2:210≠e)(h3:3≠e)(h4:142≠e):al_ w' T:=by
 have f:H.Frame (fun k=>v.ownBlock=some k) w w':=⟨hg.os,hg.tape,hg.output,hg.size,fun k hk hn=>hg.block k hk (fun e=>hn e.symm)⟩;exact⟨h.blk.frame f (fun e=>ai_ hr h.blk (Ne.symm h1) e),ak_ h.row f (fun g hg e=>aQ_ h.row hr h2 hg e),h.few,h.bb,ak_ h.free f (fun g hg e=>aQ_ h.free hr h3 hg e),fun r hr'=>ak_ (h.attrs r hr') f (fun g hg e=>aQ_ (h.attrs r hr') hr h4 hg e)⟩
theorem he_{m:aa_}(W:WF m){p h:Nat}{b:Option Nat}(hl:h<m.length)(hpl:p<m.length)(hb:∀x,b=some x->(nd m x).parent=some p) :
  cQ_ (out m h) p (placeOf (out m h) p (aA_ m h b))=aA_ m h b:=by
 have key:∀x,aA_ m h b=some x->x∈(nd (out m h) p).kids:=by
  intro x hx;have hin:x∈(nd m p).kids/\x≠h:=by
   unfold aA_ at hx
   by_cases e:b=some h
   ·rw[if_pos e]at hx
    have hp:=hb h e;rw[hp]at hx;dsimp only at hx;refine⟨List.mem_of_getElem? hx,fun e2=>?_⟩;rw[e2]at hx;have h1:=dB_ (W.par h p hp).2;have hi:(nd m p).kids.idxOf h<(nd m p).kids.length:=List.idxOf_lt_length_of_mem (W.par h p hp).2;have:=(List.getElem?_inj hi (W.nodup p)).1 (h1.trans hx.symm);omega
   rw[if_neg e]at hx;exact⟨(W.par x p (hb x hx)).2,fun e2=>e (by rw[hx,e2])⟩
  unfold out
  cases hq:(nd m h).parent with
  |none=>exact hin.1
  |some q=>
   dsimp only;rw[bT_ hl (W.lt hq).2];dsimp only
   by_cases e:p=q
   ·rw[if_pos e];exact(List.mem_erase_of_ne hin.2).2 hin.1
   rw[if_neg e];exact hin.1
 cases hbf:aA_ m h b with
 |none=>unfold placeOf cQ_;dsimp only;exact List.getElem?_eq_none (nl_)
 |some x=>unfold placeOf cQ_;dsimp only;exact dB_ (key x hbf)
theorem ag_.has_out{m:aa_}(W:WF m){h:Nat}(hl:h<m.length)(j:Nat):has (out m h) j=has m j:=by
 unfold out
 cases hq:(nd m h).parent with
 |none=>rfl
 |some q=>exact mJ_ hl (W.lt hq).2 j
def cb_(m:aa_)(p:Nat)(b:Option Nat):Bool:=match b with|none=>false|some x=>!decide ((nd m x).parent=some p)
theorem fn_(m:aa_)(p h:Nat)(b:Option Nat):(may m p h=false\/cb_ m p b=true->insert m p h b=([],10,m))/\(may m p h=true->cb_ m p b=false->128<depth m p+ay_ m h->insert m p h b=([],5,m)) ∧
  (may m p h=true->cb_ m p b=false->¬128<depth m p+ay_ m h->insert m p h b=(a6_ m h++[cY_ (out m h) p h (placeOf (out m h) p (aA_ m h b))],0,put (out m h) p h (placeOf (out m h) p (aA_ m h b)))):=by
 have e:cb_ m p b=true↔∃x,b=some x/\(nd m x).parent≠some p:=by
  unfold cb_
  cases b with
  |none=>simp
  |some x=>simp
 have e2:may m p h=true->cb_ m p b=false->¬(may m p h=false\/∃x,b=some x/\(nd m x).parent≠some p):=fun h1 h2 h3=>by
  rcases h3 with h3|h3
  ·rw[h1]at h3;cases h3
  rw[e.2 h3]at h2;cases h2
 unfold G.insert;refine⟨fun h1=>?_,fun h1 h2 h3=>?_,fun h1 h2 h3=>?_⟩
 ·rw[if_pos (h1.imp id e.1)]
 ·rw[if_neg (e2 h1 h2),if_pos h3]
 rw[if_neg (e2 h1 h2),if_neg h3]
theorem mv_(T:am_)(m:aa_)(pos:Nat->Nat)(p h:Nat)(b:Option Nat)(w:World)(hT:ag_ w T m pos)(hph:has m p=true)(hh:has m h=true)(hb:∀x,b=some x->has m x=true) :
  Calls Tryz.prog 60 #[.pointer (some ⟨T.tb,0,none⟩),.int .i64 (hd T pos p),.int .i64 (hd T pos h),.int .i64 (hdO T pos b)] w fun e w'=>∃v T',e=.returned (.tuple #[v,.int .i64 ((insert m p h b).2.1:Nat)])/\H.Frame (fun k=>k=T.g) w w'/\bb_ T T'/\ag_ w' T' (insert m p h b).2.2 pos/\aD_ T pos w.heap.size w' v (insert m p h b).1:=by
 have hF:=hT.fits;have W:=hF.wf;have hfew:=hT.mem.few;have HT:=hi_ hT;have QA:=hi_ (fun(y:Nat) (hy:has m y=true) W (hb:Below w.heap.size w W)=>(by
  have h1:=at_ T (hd T pos y) W (hT.below hb).mem (by have:=aP_ (T:=T) (pos:=pos) y;omega) (by have:=bF_ hfew hF hy;omega);rw[bM_ hfew hF hy 1]at h1;exact h1:Calls Tryz.prog 83 #[.pointer (some ⟨T.tb,0,none⟩),.int .i64 (hd T pos y)] W fun e w'=>e=.returned (.pointer (some ⟨T.g,pos y*10+1,none⟩))/\Below W.heap.size W w'))
 have CP:=hi_ (fun(y:Nat) (hy:has m y=true) W (hb:Below w.heap.size w W)=>(show W.cell? ⟨T.g,pos y*10+5,none⟩=some (.int .i64 (hdO T pos (nd m y).parent))/\W.cell? ⟨T.g,pos y*10+9,none⟩=some (.int .i64 (hdO T pos (aq_ m y)))from ⟨by
  rw[((hT.below hb).cell hy (k:=5) (by omega)).1,<-hF.parent y hy];rfl,by rw[((hT.below hb).cell hy (k:=9) (by omega)).1,<-hF.next y hy];rfl⟩))
 have QM:=hi_ (fun W (hb:Below w.heap.size w W)=>may_ T m pos p h W (hT.below hb) hph hh);have QD:=hi_ (fun W (hb:Below w.heap.size w W)=>depth_ T m pos p W (hT.below hb) hph);have QH:=hi_ (fun W (hb:Below w.heap.size w W)=>height_ T m pos _ h W (nl_) (hT.below hb) hh);have QU:=hi_ (fun q (hq:(nd m h).parent=some q) W (hb:Below w.heap.size w W)=>lA_ T m pos h q W (hT.below hb) hh hq);have HIns:=hi_ (fn_ m p h b);have HPar:=hi_ (fun x (hx:b=some x)=>(show cb_ m p b = !decide ((nd m x).parent=some p) by rw[hx];rfl));have HPn:=hi_ (fun(hx:b=none)=>(show cb_ m p b=false by rw[hx];rfl));have HB:=hi_ hb;have HH:=hi_ hh;have HPh:=hi_ hph;have hdl:=W.depth_le p;have hhl:=dP_ m h;obtain⟨zb,hzb⟩:∃z,z=hdO T pos b:=⟨_,rfl⟩;have HZb:=hi_ hzb;rw[<-hzb]
 obtain⟨RI,hRI⟩:∃R,R=insert m p h b:=⟨_,rfl⟩;have HRI:=hi_ hRI;rw[<-hRI];clear hT hb hzb hRI hh hph
 go_enter Tryz.func60,Tryz.ntmps60
 go_upto_region 1 with fail
 go_cut [11] (fun s11 wx=>s11=.bool false/\Hd (Below w.heap.size w wx))
 case first=>
  go_wp2_with fail
  refine(QA.o p HPh.o _ (br_)).mono ?_;rintro e w1 ⟨rfl,h1⟩;have HB1:=hi_ h1;clear h1;go_wp2_with fail
  refine(QA.o h HH.o _ HB1.o).mono ?_;rintro e w2 ⟨rfl,h2⟩;have HB2:=bt_ HB1 h2;clear h2
  cases hb:b with
  |none=>
   have hz0:zb=0:=by rw[HZb.o,hb];rfl
   subst hz0;clear hb;go_wp2_with fail
   go_meet
   exact⟨rfl,HB2⟩
  |some x=>
   have hz0:zb=hd T pos x:=by rw[HZb.o,hb];rfl
   subst hz0;have hne1:¬hd T pos x=0:=by have:=aP_ (T:=T) (pos:=pos) x;omega
   have hne0:(hd T pos x==0)=false:=bn_ hne1;have hne2:(hd T pos x != 0)=true:=bne_iff_ne.2 hne1;have Q3:=hi_ (QA.o x (HB.o x hb) _ HB2.o);clear hb;go_wp2_with fail
   refine Q3.o.mono ?_;rintro e w3 ⟨rfl,h3⟩;have HB3:=bt_ HB2 h3;clear h3;go_wp2_with fail
   go_meet
   exact⟨rfl,HB3⟩
 obtain⟨rfl,HB1⟩:=hcut;go_upto_region 3 with fail
 obtain⟨c3,hc3⟩:∃c3,c3=(!(may m p h) || cb_ m p b):=⟨_,rfl⟩;have HC3:=hi_ hc3;clear hc3
 go_cut [32] (fun s32 wx=>s32=.bool c3/\Hd (Below w.heap.size w wx))
 case first=>
  go_wp2_with fail
  refine(QM.o _ HB1.o).mono ?_;rintro e w2 ⟨rfl,h2⟩;have HB2:=bt_ HB1 h2;clear h2
  cases hm:may m p h with
  |false=>
   have HMf:=hi_ hm;clear hm;go_wp2_with fail
   go_meet
   exact⟨congrArg Value.bool (by rw[HC3.o,HMf.o];rfl),HB2⟩
  |true=>
   have HMf:=hi_ hm;clear hm
   cases hb:b with
   |none=>
    have hz0:zb=0:=by rw[HZb.o,hb];rfl
    subst hz0;have HBn:=hi_ (HPn.o hb);clear hb;go_wp2_with fail
    go_meet
    exact⟨congrArg Value.bool (by rw[HC3.o,HMf.o,HBn.o];rfl),HB2⟩
   |some x=>
    have hz0:zb=hd T pos x:=by rw[HZb.o,hb];rfl
    subst hz0;have hne1:¬hd T pos x=0:=by have:=aP_ (T:=T) (pos:=pos) x;omega
    have hne0:(hd T pos x==0)=false:=bn_ hne1;have hne2:(hd T pos x != 0)=true:=bne_iff_ne.2 hne1;have hxx:=HB.o x hb;have Q3:=hi_ (QA.o x hxx _ HB2.o);have HCx:=hi_ (CP.o x hxx);have HBd:=hi_ (HPar.o x hb);have HEq:Hd (∀B,B=decide ((nd m x).parent=some p)->(hdO T pos (nd m x).parent==hd T pos p)=B):=hi_ (fun B hB=>by
     rw[hB]
     cases hpx:(nd m x).parent with
     |none=>
      have:¬(0:Int)=hd T pos p:=by have:=aP_ (T:=T) (pos:=pos) p;omega
      simp[hdO,this]
     |some q=>
      by_cases e:q=p
      ·rw[e];simp[hdO]
      have:¬hd T pos q=hd T pos p:=fun e2=>e (dJ_ hF (bI_ hF hxx hpx) HPh.o e2);simp[hdO,this,e])
    clear hb hxx;go_wp2_with fail
    refine Q3.o.mono ?_;rintro e w3 ⟨rfl,h3⟩;have HB3:=bt_ HB2 h3;obtain⟨k5,_⟩:=HCx.o w3 HB3.o;clear h3;generalize hB:decide ((nd m x).parent=some p)=B at *;have j1:=HEq.o B rfl;have j2:(hdO T pos (nd m x).parent != hd T pos p) = !B:=by rw[<-j1];rfl
    clear hB
    cases B with
    |true=>
     go_wp2_with fail
     go_meet
     exact⟨congrArg Value.bool (by rw[HC3.o,HMf.o,HBd.o];rfl),HB3⟩
    |false=>
     have j3:=beq_eq_false_iff_ne.1 j1;go_wp2_with fail
     go_meet
     exact⟨congrArg Value.bool (by rw[HC3.o,HMf.o,HBd.o];rfl),HB3⟩
 obtain⟨rfl,HB2⟩:=hcut
 cases hbad:c3 with
 |true=>
  rw[HC3.o]at hbad;have HRr:Hd (RI=([],10,m)):=hi_ (by
   rw[HRI.o];refine HIns.o.1 ?_
   rcases Bool.or_eq_true_iff.1 hbad with h|h
   ·exact Or.inl (by simpa using h)
   exact Or.inr h)
  clear hbad;go_wp2_with fail
  refine bodyPost_ret (v:=.tuple #[.slice none 0 0,.int .i64 10]) (by simp[results,Tryz.results60,go_sem]) rfl ⟨.slice none 0 0,T,by rw[HRr.o];rfl,H.Frame.of HB2.o,bb_.refl T,by rw[HRr.o];exact HT.o.below HB2.o,by rw[HRr.o];exact aD_.nil _ _ _ _⟩
 |false=>
  rw[HC3.o]at hbad;have HMy:=hi_ (show may m p h=true by have:=(Bool.or_eq_false_iff.1 hbad).1;simpa using this);have HPl:=hi_ (Bool.or_eq_false_iff.1 hbad).2;clear hbad;generalize hdd:depth m p=dp at *;generalize hhe:ay_ m h=he at *;have HDd:=hi_ hdd;have HHe:=hi_ hhe;have wn:IntKind.i64.wrap ((dp:Int)+(he:Int))=(dp:Int)+(he:Int):=IntWalk.i64_in _ (by omega);clear hdd hhe;go_wp2_with fail
  refine(QD.o _ HB2.o).mono ?_;rintro e w3 ⟨rfl,h3⟩;have HB3:=bt_ HB2 h3;clear h3;go_wp2_with fail
  refine(QH.o _ HB3.o).mono ?_;rintro e w4 ⟨rfl,h4⟩;have HB4:=bt_ HB3 h4;clear h4
  by_cases hlim:128<dp+he
  ·have g1:(128:Int)<(dp:Int)+(he:Int):=by omega
   have HRr:Hd (RI=([],5,m)):=hi_ (by rw[HRI.o];exact HIns.o.2.1 HMy.o HPl.o hlim);clear hlim;go_wp2_with fail
   refine bodyPost_ret (v:=.tuple #[.slice none 0 0,.int .i64 5]) (by simp[results,Tryz.results60,go_sem]) rfl ⟨.slice none 0 0,T,by rw[HRr.o];rfl,H.Frame.of HB4.o,bb_.refl T,by rw[HRr.o];exact HT.o.below HB4.o,by rw[HRr.o];exact aD_.nil _ _ _ _⟩
  have g1:¬(128:Int)<(dp:Int)+(he:Int):=by omega
  have HRr:=hi_ (HRI.o.trans (HIns.o.2.2 HMy.o HPl.o hlim));have HLim:=hi_ hlim;clear hlim;have HBo1:Hd (b=some h->aA_ m h b=aq_ m h):=hi_ (fun e=>by unfold aA_;rw[if_pos e];rfl);have HBo2:Hd (b≠some h->aA_ m h b=b):=hi_ (fun e=>by unfold aA_;rw[if_neg e])
  go_upto_if 63 with fail
  go_cut [3] (fun s3 wx=>s3=.int .i64 (hdO T pos (aA_ m h b))/\Hd (Below w.heap.size w wx))
  case first=>
   by_cases e:b=some h
   ·have hz:zb=hd T pos h:=by rw[HZb.o,e];rfl
    subst hz;have z1:(hd T pos h==hd T pos h)=true:=beq_self_eq_true _;have HE:=hi_ (HBo1.o e);clear e;go_wp2_with fail
    refine(QA.o h HH.o _ HB4.o).mono ?_;rintro e w5 ⟨rfl,h5⟩;have HB5:=bt_ HB4 h5;obtain⟨_,k9⟩:=CP.o h HH.o w5 HB5.o;clear h5;go_wp2_with fail
    go_meet
    exact⟨by rw[HE.o],HB5⟩
   have hz:¬zb=hd T pos h:=by
    rw[HZb.o]
    cases hbb:b with
    |none=>have:=aP_ (T:=T) (pos:=pos) h;show ¬(0:Int)=hd T pos h;omega
    |some x=>exact fun e2=>e (by rw[hbb,dJ_ hF (HB.o x hbb) HH.o e2])
   have z1:(zb==hd T pos h)=false:=bn_ hz;have HE:=hi_ (HBo2.o e);clear e;go_wp2_with fail
   go_meet
   exact⟨by rw[HE.o,<-HZb.o],HB4⟩
  obtain⟨rfl,HB5⟩:=hcut;go_wp2_with fail
  refine(QA.o h HH.o _ HB5.o).mono ?_;rintro e w6 ⟨rfl,h6⟩;have HB6:=bt_ HB5 h6;obtain⟨k5,_⟩:=CP.o h HH.o w6 HB6.o;clear h6
  go_upto_if 76 with fail
  go_cut [10] (fun s10 wx=>∃T1,Hd (aD_ T pos w.heap.size wx s10 (a6_ m h))/\Hd (ag_ wx T1 (out m h) pos)/\Hd (bb_ T T1)/\Hd (H.Frame (fun k=>k=T.g) w wx))
  case first=>
   cases hq:(nd m h).parent with
   |none=>
    rw[hq]at k5;have k5':w6.cell? ⟨T.g,pos h*10+5,none⟩=some (.int .i64 0):=k5;have z1:(hdO T pos none != 0)=false:=rfl;have z2:(hdO T pos none==0)=true:=rfl;have z3:hdO T pos none=0:=rfl;have HO1:Hd (a6_ m h=[]):=hi_ (by unfold a6_;rw[hq]);have HO2:Hd (out m h=m):=hi_ (by unfold out;rw[hq]);clear k5 hq;go_wp2_with fail
    go_meet
    refine⟨T,hi_ ?_,hi_ ?_,hi_ (bb_.refl T),hi_ (H.Frame.of HB6.o)⟩
    ·rw[HO1.o];exact aD_.nil _ _ _ _
    rw[HO2.o];exact HT.o.below HB6.o
   |some q=>
    rw[hq]at k5;have hne1:¬hd T pos q=0:=by have:=aP_ (T:=T) (pos:=pos) q;omega
    have hne0:(hd T pos q==0)=false:=bn_ hne1;have hne2:(hdO T pos (some q) != 0)=true:=bne_iff_ne.2 hne1;have hne3:¬hdO T pos (some q)=0:=hne1;have hne4:(hdO T pos (some q)==0)=false:=hne0;have HO1:Hd (a6_ m h=[bm_ m h q]):=hi_ (by unfold a6_;rw[hq]);have HO2:Hd (out m h=cut m h q):=hi_ (by unfold out;rw[hq]);have Q7:=hi_ (QU.o q hq w6 HB6.o);clear k5 hq;go_wp2_with fail
    refine Q7.o.mono ?_;rintro e w7 ⟨T1,rfl,hf7,hL,hT7⟩;have HF7:=hi_ ((H.Frame.of (S:=fun k=>k=T.g) HB6.o).trans hf7 (fun b hb=>Or.inl hb));have HL:=hi_ hL;have HT7:=hi_ hT7;obtain⟨rc,hrc⟩:∃rc,rc=bm_ m h q:=⟨_,rfl⟩;rw[<-hrc]at HO1 ⊢;have HOn:=hi_ (g0_ (T:=T) (pos:=pos) rc);have HNil:=hi_ (World.ownsRow_nil w7 w.heap.size 73 11);obtain⟨i0,hi0,hz0,hz1,hz2⟩:=info_parts mx_;have hs7:=HF7.o.size;have HRc:Hd (∀x,x=(av_ T pos rc)->x.toArray=(av_ T pos rc).toArray):=hi_ (fun x hx=>by rw[hx]);clear hf7 hL hT7 Q7 hrc HRc;unfold av_
    go_wp2_with (at_builtin;refine wpList_append_lies _ rfl _ _ 66 rfl w.heap.size 73 i0 _ 11 104 Tryz.underlying66 hi0 hz0 hz1 hz2 rfl (by decide) (.slice none 0 0) 0 [] rfl (HNil.o.alloc _) ⟨w7.heap.size,0,none⟩ 1 1 (av_ T pos rc) rfl rfl ?c1 ?c2 ?c3 ?c4 ?c5 ?c6 (w7.heap.size+1) ?c7 ?_)
    case c1=>exact World.news_of_block (cs:=(av_ T pos rc).toArray) (heap_alloc_new w7 (.cells (av_ T pos rc).toArray 73))
    case c2=>exact HOn.o
    case c3=>omega
    case c4=>unfold maxLen;omega
    case c5=>omega
    case c6=>simp;omega
    case c7=>simp
    intro gg cap2 w8 hown8 hgrow hat8 hlt8;have HM8:=hi_ (al_.grown (HT7.o.mem.below ((Below.refl w7.heap.size w7).alloc (nl_) (.cells (av_ T pos rc).toArray 73))) (World.ownsRow_nil _ w.heap.size 73 11) hgrow (by decide) (by decide) (by decide) (by decide));have HF8:=hi_ ((HF7.o.alloc (.cells (av_ T pos rc).toArray 73)).grown hgrow (fun k hk=>by simp[Value.ownBlock]at hk));have HO8:=hi_ hown8;clear hown8 hgrow hat8;go_wp2_with fail
    go_meet
    refine⟨T1,hi_ ?_,hi_ ?_,HL,HF8⟩
    ·rw[HO1.o]
     unfold aD_ ab_;rw[show[rc].flatMap (av_ T pos)=av_ T pos rc by simp];have:=HO8.o;simpa using this
    rw[HO2.o];exact⟨HM8.o,HT7.o.fits⟩
  obtain⟨T1,HR1,HT1,HL1,HF1⟩:=hcut;clear k5 HB6 HB5 HB4 HB2 HB1;obtain⟨m1,m2,m3⟩:=f0_ W HMy.o;have hl:=aR_ HH.o;have hpl:=aR_ HPh.o;obtain⟨o1,o2,o3,o4,o5,o6,o7⟩:=fU_ W hl hpl m1;have hbp:∀x,b=some x->(nd m x).parent=some p:=fun x hx=>by
   have h1:=HPl.o;rw[HPar.o x hx]at h1;simpa using h1
  have haft:=he_ W hl hpl hbp;have hgn:(nd m h).gone=(nd m p).gone:=by
   have h1:=HH.o;have h2:=HPh.o;unfold has at h1 h2
   cases e1:(nd m h).gone<;>cases e2:(nd m p).gone<;>simp_all
  have hne:h≠p:=fun e=>by rw[<-e,W.contains_self]at m1;cases m1
  have h0:h≠0:=fun e=>m2 (by rw[e];exact W.doc.2.1);obtain⟨k,hk⟩:∃k,k=placeOf (out m h) p (aA_ m h b):=⟨_,rfl⟩;rw[<-hk]at haft HRr;have hkl:k<=(nd (out m h) p).kids.length:=by
   rw[hk];unfold placeOf
   cases aA_ m h b with
   |none=>exact nl_
   |some x=>exact List.idxOf_le_length
  have hWp:WF (put (out m h) p h k):=o1.put o3 h0 (by rw[o2];exact hl) (by rw[o2];exact hpl) (by rw[o4];exact m1) (by rw[o5,o6,HDd.o,HHe.o];have:=HLim.o;omega) (by rw[(o7 p).1];exact m3) (by rw[(o7 h).2,(o7 p).2];exact hgn);have QL:=link_ T1 (out m h) pos h p k _ HT1.o (by rw[ag_.has_out W hl];exact HH.o) (by rw[ag_.has_out W hl];exact HPh.o) o3 hkl hne hWp;have e0:∀o,hdO T1 pos o=hdO T pos o:=d8_ HL1.o.bs HL1.o.st;have e1:hd T1 pos p=hd T pos p:=e0 (some p);have e2:hd T1 pos h=hd T pos h:=e0 (some h);rw[haft,e0,e1,e2,HL1.o.tb,HL1.o.g]at QL;have QL2:=hi_ QL;obtain⟨ao,cap,hv⟩:=HR1.o.form;subst hv;clear QL hkl hWp haft hbp hgn o1 o2 o3 o4 o5 o6 o7 m1 m2 m3 hk e0 e1 e2 h0 hne hl hpl;go_wp2_with fail
  refine QL2.o.mono ?_;rintro e w8 ⟨T2,rfl,hf8,hL2,hT8⟩;have HF8:=hi_ (HF1.o.trans hf8 (fun b hb=>Or.inl hb));have HL2:=hi_ (HL1.o.trans hL2);have HT8:=hi_ hT8;have hr8:=ak_ HR1.o hf8 (fun g hg e=>aQ_ HR1.o HT1.o.mem.row (by decide) hg (by rw[HL1.o.g];exact congrArg some e.symm));have HR8:=hi_ hr8;obtain⟨rc,hrc⟩:∃rc,rc=cY_ (out m h) p h k:=⟨_,rfl⟩;rw[<-hrc]at HRr ⊢;rw[fR_ HL1.o.bs HL1.o.st rc];have HOn:=hi_ (g0_ (T:=T) (pos:=pos) rc);obtain⟨i0,hi0,hz0,hz1,hz2⟩:=info_parts mx_;have hs8:=HF8.o.size;have hlo:(a6_ m h).length<=1:=by unfold a6_;cases (nd m h).parent<;>simp
  obtain⟨lo,hlo2⟩:∃lo,lo=a6_ m h:=⟨_,rfl⟩;rw[<-hlo2]at HRr HR8 hlo ⊢;clear hf8 hL2 hT8 hr8 hrc hlo2 QL2 HR1 HT1;unfold av_;go_wp2_with (at_builtin;refine wpList_append_lies _ rfl _ _ 66 rfl w.heap.size 73 i0 _ 11 104 Tryz.underlying66 hi0 hz0 hz1 hz2 rfl (by decide) (.slice ao lo.length cap) lo.length (lo.flatMap (av_ T pos)) rfl (World.ownsRow.alloc HR8.o _) ⟨w8.heap.size,0,none⟩ 1 1 (av_ T pos rc) rfl rfl ?c1 ?c2 ?c3 ?c4 ?c5 ?c6 (w8.heap.size+1) ?c7 ?_)
  case c1=>exact World.news_of_block (cs:=(av_ T pos rc).toArray) (heap_alloc_new w8 (.cells (av_ T pos rc).toArray 73))
  case c2=>exact HOn.o
  case c3=>omega
  case c4=>unfold maxLen;omega
  case c5=>omega
  case c6=>simp;omega
  case c7=>simp
  intro gg cap2 w9 hown9 hgrow hat9 hlt9;have HM9:=hi_ (al_.grown (HT8.o.mem.below ((Below.refl w8.heap.size w8).alloc (nl_) (.cells (av_ T pos rc).toArray 73))) (World.ownsRow.alloc HR8.o _) hgrow (by decide) (by decide) (by decide) (by decide));have HF9:=hi_ ((HF8.o.alloc (.cells (av_ T pos rc).toArray 73)).grown hgrow (fun k hk=>Or.inr (HR8.o.lt k hk).1));have HO9:=hi_ hown9;clear hown9 hgrow hat9;go_wp2_with fail
  refine bodyPost_ret (v:=.tuple #[.slice (some ⟨gg,0,none⟩) (lo.length+1) cap2,.int .i64 0]) (by simp[results,Tryz.results60,go_sem]) rfl ⟨.slice (some ⟨gg,0,none⟩) (lo.length+1) cap2,T2,by rw[HRr.o];rfl,HF9.o,HL2.o,by rw[HRr.o];exact⟨HM9.o,HT8.o.fits⟩,?_⟩;rw[HRr.o];unfold aD_ ab_;rw[List.flatMap_append,show[rc].flatMap (av_ T pos)=av_ T pos rc by simp,List.length_append];exact HO9.o
theorem j3_:(Tryz.prog.info? 210).map (fun i=>(i.zero,i.size,i.bytes))=some (some (.agg #[.bool false,.int .i64 0,.string ⟨#[]⟩,.slice none 0 0,.string ⟨#[]⟩,.int .i64 0,.int .i64 0,.int .i64 0,.int .i64 0,.int .i64 0]),10,112):=by kernel_rfl
structure ee_(w:World)(T:am_)(V:Value):Prop where
 blk:Blk T.tb #[.int .i64 T.bs,.int .i64 T.st,V,T.freeV,.int .i64 T.live,.int .i64 T.root] 92 w
 row:ab_ a8_ T.B 210 10 w V T.slots
 few:T.slots.length<=1000000
 bb:T.B<=T.tb
 free:cd_ T.B w T.freeV T.frees
 attrs:∀r,r∈T.slots->aw_ w r.attrs r.al
theorem al_.v{w:World}{T:am_}(h:al_ w T):ee_ w T (.slice (some ⟨T.g,0,none⟩) T.slots.length T.cap):=⟨h.blk,h.row,h.few,h.bb,h.free,h.attrs⟩
theorem ee_.below{w w':World}{T:am_}{V:Value}(h:ee_ w T V)(b:Below w.heap.size w w'):ee_ w' T V:=
 ⟨h.blk.below b,own_below h.row b,h.few,h.bb,own_below h.free b,fun r hr=>own_below (h.attrs r hr) b⟩
def am_.next(T:am_):Nat:=match T.frees.getLast? with|none=>T.slots.length|some s=>s
def am_.grow(T:am_)(r:ez_)(g cap:Nat)(V:Value):am_:=match T.frees.getLast? with
 |none=>{ T with g:=g,cap:=cap,slots:=T.slots++[r],live:=T.live+1 }
 |some s=>{ T with g:=g,cap:=cap,slots:=T.slots.set s r,freeV:=V,frees:=T.frees.dropLast,live:=T.live+1 }
theorem fa_(T:am_){x:G.Node}{av:Value}{g cap:Nat}{V:Value}(hf:T.frees.Nodup/\∀s,s∈T.frees->s<T.slots.length/\(T.sl s).used=false):Added T (T.grow (aL_ x av) g cap V) x T.next:=by
 unfold am_.grow am_.next
 cases h:T.frees.getLast? with
 |none=>
  dsimp only;have hl:(T.slots++[aL_ x av]).length=T.slots.length+1:=by simp
  have e0:T.frees=[]:=List.getLast?_eq_none_iff.1 h;refine⟨rfl,rfl,rfl,rfl,by show T.slots.length<(T.slots++[aL_ x av]).length;omega,by show T.slots.length<=(T.slots++[aL_ x av]).length;omega,fun t h1 h2=>by have h1:t<(T.slots++[aL_ x av]).length:=h1;omega,⟨av,?_⟩,fun t h1 h2=>?_,fun h1=>by omega,?_⟩
  ·show(T.slots++[aL_ x av]).getD T.slots.length aT_=_
   rw[List.getD_eq_getElem?_getD,List.getElem?_append_right (nl_),Nat.sub_self];rfl
  ·show(T.slots++[aL_ x av]).getD t aT_=T.slots.getD t aT_
   rw[List.getD_eq_getElem?_getD,List.getD_eq_getElem?_getD,List.getElem?_append_left h1]
  show T.frees.Nodup/\_;rw[e0];exact⟨List.nodup_nil,fun t ht=>by cases ht⟩
 |some s=>
  dsimp only;have hm:=List.mem_of_getLast? h;obtain⟨h1,h2⟩:=hf.2 s hm;have hl:(T.slots.set s (aL_ x av)).length=T.slots.length:=by simp
  obtain⟨ys,hys⟩:=List.getLast?_eq_some_iff.1 h;have hdl:T.frees.dropLast=ys:=by rw[hys];simp
  have hn:=hf.1;rw[hys,List.nodup_append]at hn;refine⟨rfl,rfl,rfl,rfl,by show s<(T.slots.set s (aL_ x av)).length;omega,by show T.slots.length<=(T.slots.set s (aL_ x av)).length;omega,fun t h1 h2=>by have h1:t<(T.slots.set s (aL_ x av)).length:=h1;omega,⟨av,?_⟩,fun t h3 h4=>?_,fun _=>h2,by rw[hdl];exact hn.1,fun t ht=>?_⟩
  ·show(T.slots.set s (aL_ x av)).getD s aT_=_
   rw[List.getD_eq_getElem?_getD,List.getElem?_set_self h1];rfl
  ·show(T.slots.set s (aL_ x av)).getD t aT_=T.slots.getD t aT_
   rw[List.getD_eq_getElem?_getD,List.getD_eq_getElem?_getD,List.getElem?_set_ne (fun e=>h4 e.symm)]
  have ht:t∈T.frees.dropLast:=ht;rw[hdl]at ht;exact⟨by rw[hys];exact List.mem_append_left _ ht,fun e=>hn.2.2 t ht s (by simp) e⟩
def fX_(x:G.Node)(av:Value):Value:=.agg #[.int .i64 x.kind,.string ⟨x.name.toArray⟩,av,.string ⟨x.data.toArray⟩,.int .i64 0,.int .i64 0,.int .i64 0,.int .i64 0,.int .i64 0]
def am_.foot(T:am_)(k:Nat):Prop:=k=T.tb\/k=T.g\/T.freeV.ownBlock=some k
def hB_(T:am_)(V:Value)(k:Nat):Prop:=k=T.tb\/V.ownBlock=some k\/T.freeV.ownBlock=some k
theorem Blk.tree2{w:World}{tb:Nat}{a b c d e f:Value}{t:TypeId}(h:Blk tb #[a,b,c,d,e,f] t w)(c' e':Value):Blk tb #[a,b,c',d,e',f] t ((w.setCell ⟨tb,2,none⟩ c').setCell ⟨tb,4,none⟩ e'):=by
 have h9:=(h.set 2 c').set 4 e';simp only[List.setIfInBounds_toArray,List.set_cons_zero,List.set_cons_succ]at h9;exact h9
theorem Blk.tree3{w:World}{tb:Nat}{a b c d e f:Value}{t:TypeId}(h:Blk tb #[a,b,c,d,e,f] t w)(d':Value):Blk tb #[a,b,c,d',e,f] t (w.setCell ⟨tb,3,none⟩ d'):=by
 have h9:=h.set 3 d';simp only[List.setIfInBounds_toArray,List.set_cons_zero,List.set_cons_succ]at h9;exact h9
theorem Blk.tree4{w:World}{tb:Nat}{a b c d e f:Value}{t:TypeId}(h:Blk tb #[a,b,c,d,e,f] t w)(e':Value):Blk tb #[a,b,c,d,e',f] t (w.setCell ⟨tb,4,none⟩ e'):=by
 have h9:=h.set 4 e';simp only[List.setIfInBounds_toArray,List.set_cons_zero,List.set_cons_succ]at h9;exact h9
theorem mem_nil{w:World}{T:am_}{V:Value}{r:ez_}{g cap:Nat}(hfr:T.frees=[])(hblk:Blk T.tb #[.int .i64 T.bs,.int .i64 T.st,V,T.freeV,.int .i64 T.live,.int .i64 T.root] 92 w)
  (hrow:w.ownsRow T.B 210 10 (.slice (some ⟨g,0,none⟩) (T.slots.length+1) cap) (T.slots.length+1) (T.slots.flatMap a8_++a8_ r)) (hfree:cd_ T.B w T.freeV T.frees) (hat:∀s,s∈T.slots->aw_ w s.attrs s.al) (har:aw_ w r.attrs r.al) (hlen:T.slots.length<1000000) (hbb:T.B<=T.tb) :
  al_ ((w.setCell ⟨T.tb,2,none⟩ (.slice (some ⟨g,0,none⟩) (T.slots.length+1) cap)).setCell ⟨T.tb,4,none⟩ (.int .i64 (T.live+1))) (T.grow r g cap T.freeV):=by
 have e1:T.grow r g cap T.freeV={ T with g:=g,cap:=cap,slots:=T.slots++[r],live:=T.live+1 }:=by unfold am_.grow;rw[hfr];rfl
 have hl:(T.slots++[r]).length=T.slots.length+1:=by simp
 have n1:=ai_ hrow hblk (by decide);have n2:=ai_ hfree hblk (by decide);rw[e1];refine⟨?_,?_,by show(T.slots++[r]).length<=_;omega,hbb,?_,?_⟩
 ·show Blk T.tb #[.int .i64 T.bs,.int .i64 T.st,.slice (some ⟨g,0,none⟩) (T.slots++[r]).length cap,T.freeV,.int .i64 (T.live+1),.int .i64 T.root] _ _
  rw[hl];exact Blk.tree2 hblk _ _
 ·show World.ownsRow _ T.B _ 10 (.slice (some ⟨g,0,none⟩) (T.slots++[r]).length cap) (T.slots++[r]).length ((T.slots++[r]).flatMap a8_)
  rw[hl,List.flatMap_append,show[r].flatMap a8_=a8_ r by simp];exact au_ (au_ hrow n1 _ _) n1 _ _
 ·exact au_ (au_ hfree n2 _ _) n2 _ _
 intro s hs;have hs:s∈T.slots++[r]:=hs;have h1:aw_ w s.attrs s.al:=by
  rcases List.mem_append.1 hs with h|h
  ·exact hat s h
  rw[List.mem_singleton.1 h];exact har
 have n3:=ai_ h1 hblk (by decide);exact au_ (au_ h1 n3 _ _) n3 _ _
theorem mem_cons{w:World}{T:am_}{r:ez_}{g gf cap fcap s:Nat}(hgl:T.frees.getLast?=some s)(hblk:Blk T.tb #[.int .i64 T.bs,.int .i64 T.st,.slice (some ⟨g,0,none⟩) T.slots.length cap,.slice (some ⟨gf,0,none⟩) (T.frees.length-1) fcap,.int .i64 T.live,.int .i64 T.root] 92 w)
  (hrow:ab_ a8_ T.B 210 10 w (.slice (some ⟨g,0,none⟩) (T.slots.set s r).length cap) (T.slots.set s r)) (hfree:cd_ T.B w (.slice (some ⟨gf,0,none⟩) T.frees.length fcap) T.frees) (hat:∀s,s∈T.slots->aw_ w s.attrs s.al) (har:aw_ w r.attrs r.al) (hlen:T.slots.length<=1000000) (hbb:T.B<=T.tb) :
  al_ (w.setCell ⟨T.tb,4,none⟩ (.int .i64 (T.live+1))) (T.grow r g cap (.slice (some ⟨gf,0,none⟩) (T.frees.length-1) fcap)):=by
 have e1:T.grow r g cap (.slice (some ⟨gf,0,none⟩) (T.frees.length-1) fcap)={ T with g:=g,cap:=cap,slots:=T.slots.set s r,freeV:=.slice (some ⟨gf,0,none⟩) (T.frees.length-1) fcap,frees:=T.frees.dropLast,live:=T.live+1 }:=by unfold am_.grow;rw[hgl]
 have hl:(T.slots.set s r).length=T.slots.length:=by simp
 have n1:=ai_ hrow hblk (by decide);have hf2:=fT_ hfree (k:=T.frees.length-1) (by omega);have n2:=ai_ hf2 hblk (by decide);have e2:(aF_ T.frees).take ((T.frees.length-1)*1)=aF_ T.frees.dropLast:=by unfold aF_;rw[List.dropLast_eq_take,Nat.mul_one,List.map_take]
 have e3:T.frees.dropLast.length=T.frees.length-1:=by simp
 rw[e1];refine⟨?_,?_,by show(T.slots.set s r).length<=_;omega,hbb,?_,?_⟩
 ·show Blk T.tb #[.int .i64 T.bs,.int .i64 T.st,.slice (some ⟨g,0,none⟩) (T.slots.set s r).length cap,_,.int .i64 (T.live+1),.int .i64 T.root] _ _
  rw[hl];exact Blk.tree4 hblk _
 ·exact au_ hrow n1 _ _
 ·show World.ownsRow _ T.B _ 1 _ T.frees.dropLast.length (aF_ T.frees.dropLast)
  rw[e3,<-e2];exact au_ hf2 n2 _ _
 intro q hq;have hq:q∈T.slots.set s r:=hq;have h1:aw_ w q.attrs q.al:=by
  rcases List.mem_or_eq_of_mem_set hq with h|h
  ·exact hat q h
  rw[h];exact har
 have n3:=ai_ h1 hblk (by decide);exact au_ h1 n3 _ _
theorem bk_{w:World}{B b:Nat}{e t:TypeId}{size n:Nat}{v:Value}{xs:List Value}{cs:Array Value}(h:w.ownsRow B e size v n xs)(hb:Blk b cs t w)(hne:e≠t)(o:Nat)(u:Value):(w.setCell ⟨b,o,none⟩ u).ownsRow B e size v n xs:=au_ h (ai_ h hb hne) o u
theorem hG_{w:World}{a:Nat}{cs:Array Value}{s:TypeId}(h:Blk a cs s w):Blk a cs s w.drew:=h
theorem nO_{α:Type}{c:α->List Value}{w:World}{B size:Nat}{e:TypeId}{v:Value}{l:List α}(h:ab_ c B e size w v l):ab_ c B e size w.drew v l:=World.ownsRow.drew h
theorem blk_ne{w:World}{a b:Nat}{cs ds:Array Value}{s t:TypeId}(h:Blk a cs s w)(k:Blk b ds t w)(hne:s≠t):a≠b:=fun e=>by subst e;exact hne (cD_ h k)
theorem Frame.drew{S:Nat->Prop}{u w:World}(h:H.Frame S u w):H.Frame S u w.drew:=⟨h.os,h.tape,h.output,h.size,h.block⟩
theorem Frame.of_grown{w w':World}{row:Option Nat}(hg:w.grownBy w' row):H.Frame (fun k=>row=some k) w w':=⟨hg.os,hg.tape,hg.output,hg.size,fun k hk hn=>hg.block k hk (fun e=>hn e.symm)⟩
theorem kv_(r:ez_)(h:∃ao n cap,r.attrs=.slice ao n cap):∀u∈a8_ r,u.oneCell'=true:=by
 obtain⟨ao,n,cap,h⟩:=h;unfold a8_;rw[h];simp[Value.oneCell']
theorem add_(T:am_)(V:Value)(x:G.Node)(av:Value)(w:World)(hT:ee_ w T V)(hf:T.frees.Nodup/\∀s,s∈T.frees->s<T.slots.length/\(T.sl s).used=false)(ha:aw_ w av x.attrs)(hlen:T.slots.length<1000000)(hlive:0<=T.live/\T.live<=1000000)(hfl:T.frees.length<=1000000) :
  Calls Tryz.prog 92 #[.pointer (some ⟨T.tb,0,none⟩),fX_ x av] w fun e w'=>∃g cap V',e=.returned (.int .i64 (handle T.bs T.st T.next))/\H.Frame (hB_ T V) w w'/\al_ w' (T.grow (aL_ x av) g cap V')/\(V.ownBlock=some g\/w.heap.size<=g)/\(T.freeV.ownBlock=V'.ownBlock):=by
 have hB1:=(Below.refl w.heap.size w).alloc (nl_) (.cells #[.int .i64 x.kind,.string ⟨x.name.toArray⟩,av,.string ⟨x.data.toArray⟩,.int .i64 0,.int .i64 0,.int .i64 0,.int .i64 0,.int .i64 0] 126);have hT1:=hT.below hB1;have hX1:Blk w.heap.size #[.int .i64 x.kind,.string ⟨x.name.toArray⟩,av,.string ⟨x.data.toArray⟩,.int .i64 0,.int .i64 0,.int .i64 0,.int .i64 0,.int .i64 0] 126 (w.alloc (.cells #[.int .i64 x.kind,.string ⟨x.name.toArray⟩,av,.string ⟨x.data.toArray⟩,.int .i64 0,.int .i64 0,.int .i64 0,.int .i64 0,.int .i64 0] 126)):=Blk.new w _ _;obtain⟨ao,acap,hva⟩:=aw_.slice ha;subst hva;have ha1:aw_ _ _ _:=own_below ha hB1;unfold fX_;obtain⟨vo,vcap,hV⟩:=fJ_ hT.row;obtain⟨fo,fcap,hFv⟩:=fJ_ hT.free;obtain⟨hc,hfz⟩:=ae_ hT1.blk;have hlt:=hT1.blk.lt
 have hltX:=hX1.lt;have c0:=hc 0;have c1:=hc 1;have c2:=hc 2;have c3:=hc 3;have c4:=hc 4;have c5:=hc 5;have f2:=hfz 2 (by show 2<6;omega);have f3:=hfz 3 (by show 3<6;omega);have f4:=hfz 4 (by show 4<6;omega);simp only[List.getElem?_toArray,List.getElem?_cons_zero,List.getElem?_cons_succ]at c0 c1 c2 c3 c4 c5;have HT1:=hi_ hT1;have HX1:=hi_ hX1;have HA1:=hi_ ha1;have HB1:=hi_ hB1;subst hV;have HRow:=hi_ hT.row;have hsz:w.heap.size<(w.alloc (.cells #[.int .i64 x.kind,.string ⟨x.name.toArray⟩,.slice ao x.attrs.length acap,.string ⟨x.data.toArray⟩,.int .i64 0,.int .i64 0,.int .i64 0,.int .i64 0,.int .i64 0] 126)).heap.size:=by simp
 obtain⟨⟨x0,x1,x2,x3,x4,x5,x6,x7,x8⟩,_⟩:=b2_ hX1;obtain⟨i0,hi0,hz0,hz1,hz2⟩:=info_parts j3_;have hq:-9223372036854775808<=T.live+1/\T.live+1<9223372036854775808:=by omega
 have wl:IntKind.i64.wrap (T.live+1)=T.live+1:=IntWalk.i64_in _ (by omega);clear hq hT1 hX1 ha1 hB1 hT hc hfz
 go_enter Tryz.func92,Tryz.ntmps92
 cases hfr:T.frees with
 |nil=>
  rw[hfr]at hFv;rw[hFv]at c3;have HFr:=hi_ hfr;have hnx:T.next=T.slots.length:=by unfold am_.next;rw[hfr];rfl
  have HNx:=hi_ hnx;have QH:=hi_ (fun W=>mK_ T.bs T.st T.slots.length W (by omega));clear hnx hfr ha hf hFv;go_wp2_with fail
  generalize hw1:w.alloc (.cells #[.int .i64 x.kind,.string ⟨x.name.toArray⟩,.slice ao x.attrs.length acap,.string ⟨x.data.toArray⟩,.int .i64 0,.int .i64 0,.int .i64 0,.int .i64 0,.int .i64 0] 126)=w1 at *;clear hw1
  go_region_law ((refine step_append_lies _ (by rfl) _ _ _ (by rfl) T.B 210 i0 _ 10 112 Tryz.underlying88 hi0 hz0 hz1 hz2 rfl (by omega) (.slice vo T.slots.length vcap) T.slots.length (T.slots.flatMap a8_) (by rfl) ((World.ownsRow.alloc HT1.o.row _).drew) ⟨w1.heap.size,0,none⟩ 1 1 (a8_ (aL_ x (.slice ao x.attrs.length acap))) (by rfl) (by rfl) (World.news_of_block (cs:=(a8_ (aL_ x (.slice ao x.attrs.length acap))).toArray) (t:=210) (fr:=(0,0)) (heap_alloc_new w1 _)) (kv_ _ ⟨_,_,_,rfl⟩) (by omega) (by unfold maxLen;omega) (by omega) (by have:=HT1.o.bb;have:=HT1.o.blk.lt;simp;omega) (w1.heap.size+1) (by simp) ?_;intro gg cap2 w5 hown5 hgrow hat hlt5;have hbk:Blk T.tb #[.int .i64 T.bs,.int .i64 T.st,.slice vo T.slots.length vcap,T.freeV,.int .i64 T.live,.int .i64 T.root] 92 w5:=(hgrow.block T.tb (by have:=HT1.o.blk.lt;simp;omega) (fun h=>ai_ HT1.o.row HT1.o.blk (by decide) h.symm)).trans (HT1.o.blk.alloc _);obtain⟨hc5,hf5⟩:=ae_ hbk;have d0:=hc5 0;have d1:=hc5 1;have d2:=hc5 2;have d4:=hc5 4;have g2:=hf5 2 (by show 2<6;omega);have g4:=hf5 4 (by show 4<6;omega);simp only[List.getElem?_toArray,List.getElem?_cons_zero,List.getElem?_cons_succ]at d0 d1 d2 d4;have hltb:=hbk.lt))
  all_goals
   clear hc5 hf5 c0 c1 c2 c3 c4 c5 f2 f3 f4;have HBk:=hi_ hbk;have HO5:=hi_ hown5;have HG5:=hi_ hgrow;have HAt:=hi_ hat;have hM:al_ ((w5.setCell ⟨T.tb,2,none⟩ (.slice (some ⟨gg,0,none⟩) (T.slots.length+1) cap2)).setCell ⟨T.tb,4,none⟩ (.int .i64 (T.live+1))) (T.grow (aL_ x (.slice ao x.attrs.length acap)) gg cap2 T.freeV):=by
    have hkeep:∀{B:Nat} {e:TypeId} {size n:Nat} {v:Value} {xs:List Value},World.ownsRow w1 B e size v n xs->e≠210->w5.ownsRow B e size v n xs:=fun {B e size n v xs} h1 h2=>
     ak_ (World.ownsRow.drew (h1.alloc _)) (Frame.of_grown hgrow) (fun k hk e=>aQ_ h1 HT1.o.row h2 hk e)
    exact mem_nil HFr.o hbk hown5 (hkeep HT1.o.free (by decide)) (fun s hs=>hkeep (HT1.o.attrs s hs) (by decide)) (hkeep HA1.o (by decide)) hlen HT1.o.bb
   have hF5:H.Frame (hB_ T (.slice vo T.slots.length vcap)) w ((w5.setCell ⟨T.tb,2,none⟩ (.slice (some ⟨gg,0,none⟩) (T.slots.length+1) cap2)).setCell ⟨T.tb,4,none⟩ (.int .i64 (T.live+1))):=
    Frame.set (S:=hB_ T (.slice vo T.slots.length vcap)) (Frame.set (S:=hB_ T (.slice vo T.slots.length vcap)) (Frame.grown (S:=hB_ T (.slice vo T.slots.length vcap)) (Frame.drew (Frame.alloc (Frame.of HB1.o) _)) hgrow (fun k hk=>Or.inl (Or.inr (Or.inl hk)))) (Or.inl (Or.inl rfl)) _ _) (Or.inl (Or.inl rfl)) _ _
   have HF5:=hi_ hF5;have HM:=hi_ hM;clear hM hF5 hbk hown5 hgrow hat;go_wp2_with fail
   refine(QH.o _).mono ?_;rintro e w6 ⟨rfl,hb6⟩;go_wp2_with fail
   go_ret
   refine⟨gg,cap2,T.freeV,aE_ (congrArg (handle T.bs T.st) HNx.o.symm),HF5.o.below_ hb6,HM.o.below hb6,?_,rfl⟩
   rcases HAt.o with h|h
   ·exact Or.inl h
   exact Or.inr (by omega)
 |cons s0 tl=>
  obtain⟨ys,s,hys⟩:∃ys s,T.frees=ys++[s]:=by
   rw[hfr];exact⟨(s0 :: tl).dropLast,(s0 :: tl).getLast (by simp),(List.dropLast_concat_getLast (by simp)).symm⟩
  have hgl:T.frees.getLast?=some s:=by rw[hys];simp
  have hnx:T.next=s:=by unfold am_.next;rw[hgl]
  have HNx:=hi_ hnx;have HGl:=hi_ hgl;obtain⟨hs1,hs2⟩:=hf.2 s (by rw[hys];simp);have hlk:T.frees.length=ys.length+1:=by rw[hys];simp
  obtain⟨gf,fcap',hFv',hgfB,hgfl,hkc⟩:=a1_ HT1.o.free (by omega);rw[hFv']at c3;rw[hlk]at c3 hkc;have hcf:World.cell? (w.alloc (.cells #[.int .i64 x.kind,.string ⟨x.name.toArray⟩,.slice ao x.attrs.length acap,.string ⟨x.data.toArray⟩,.int .i64 0,.int .i64 0,.int .i64 0,.int .i64 0,.int .i64 0] 126)) ⟨gf,ys.length,none⟩=some (.int .i64 s):=by
   have h1:=HT1.o.free;rw[hFv']at h1;have h2:=((ad_ h1).2.2.2 ys.length (by unfold aF_;rw[List.length_map];omega)).1;rw[h2,hys];unfold aF_;rw[List.getElem?_map];simp
  obtain⟨g,vcap',hVv,hgB,hgl2,hgc⟩:=a1_ HT1.o.row (by omega);injection hVv with e1 e2 e3
  subst e1 e3;have HFv:=hi_ hFv';have HHys:=hi_ hys;have HLk:=hi_ hlk;have QH:=hi_ (fun W=>mK_ T.bs T.st s W (by omega));generalize ys.length=k at *;have p1:(0:Int)<(k:Int)+1:=by omega
  have wk:IntKind.i64.wrap ((k:Int)+1-1)=(k:Int):=by rw[show(k:Int)+1-1=(k:Int) by omega];exact IntWalk.i64_in _ (by omega)
  have wk2:wrap64 (k:Int)=(k:Int):=by unfold wrap64;omega
  have p2:(s:Int)<(T.slots.length:Int):=by omega
  have p3:(k:Int)<(k:Int)+1:=by omega
  have p4:(k:Int)<=(fcap':Int):=Int.ofNat_le.2 (Nat.le_of_succ_le hkc);rw[show((k+1:Nat))=k+1 from rfl]at c3;clear hnx hgl hfr ha hf hFv hys hlk hFv';go_wp2_with fail
  have HF2:=hi_ (Frame.set (S:=hB_ T (.slice (some ⟨g,0,none⟩) T.slots.length vcap)) (Frame.of HB1.o) (Or.inl (Or.inl rfl)) 3 (.slice (some ⟨gf,0,none⟩) k fcap'));have HBk:=hi_ (Blk.tree3 HT1.o.blk (.slice (some ⟨gf,0,none⟩) k fcap'));have HX2:=hi_ (HX1.o.far (fun e=>blk_ne HX1.o HT1.o.blk (by decide) e) 3 (.slice (some ⟨gf,0,none⟩) k fcap'));have HR2:=hi_ (bk_ HT1.o.row HT1.o.blk (by decide) 3 (.slice (some ⟨gf,0,none⟩) k fcap'));have HFr2:=hi_ (bk_ HT1.o.free HT1.o.blk (by decide) 3 (.slice (some ⟨gf,0,none⟩) k fcap'));have HAt2:=hi_ (fun s hs=>bk_ (HT1.o.attrs s hs) HT1.o.blk (by decide) 3 (.slice (some ⟨gf,0,none⟩) k fcap'));have HA2:=hi_ (bk_ HA1.o HT1.o.blk (by decide) 3 (.slice (some ⟨gf,0,none⟩) k fcap'));clear hcf;generalize World.setCell _ _ _=w2 at *;obtain⟨hc,hfz⟩:=ae_ HBk.o;have d0:=hc 0
  have d1:=hc 1;have d2:=hc 2;have d4:=hc 4;have g4:=hfz 4 (by show 4<6;omega);simp only[List.getElem?_toArray,List.getElem?_cons_zero,List.getElem?_cons_succ]at d0 d1 d2 d4;obtain⟨⟨y0,y1,y2,y3,y4,y5,y6,y7,y8⟩,_⟩:=b2_ HX2.o;have ht2:=HBk.o.lt;have hrec:=fun(k:Nat) (hk:k<10)=>ab_.cell bv_ HR2.o (i:=s) hs1 (k:=k) hk;obtain⟨z0,b0⟩:=hrec 0 (by omega);obtain⟨z1,b1⟩:=hrec 1 (by omega);obtain⟨z2,b2⟩:=hrec 2 (by omega);obtain⟨z3,b3⟩:=hrec 3 (by omega);obtain⟨z4,b4⟩:=hrec 4 (by omega);obtain⟨z5,b5⟩:=hrec 5 (by omega);obtain⟨z6,b6⟩:=hrec 6 (by omega);obtain⟨z7,b7⟩:=hrec 7 (by omega);obtain⟨z8,b8⟩:=hrec 8 (by omega);obtain⟨z9,b9⟩:=hrec 9 (by omega);obtain⟨ro,rn,rcap,hra⟩:∃ro rn rcap,T.slots[s].attrs=.slice ro rn rcap:=by
   obtain⟨ro,rcap,h⟩:=aw_.slice (HAt2.o T.slots[s] (List.getElem_mem hs1));exact⟨ro,_,rcap,h⟩
  simp only[a8_,List.getElem?_cons_zero,List.getElem?_cons_succ,Nat.add_zero,hra]at z0 z1 z2 z3 z4 z5 z6 z7 z8 z9 b0;generalize T.slots[s]=rs at *;clear hrec hc hfz c0 c1 c2 c3 c4 c5 f2 f3 f4 x0 x1 x2 x3 x4 x5 x6 x7 x8 HX1 HA1 HB1 hsz
  go_region
  change Exit.then _ _ _ _ (World.drew (World.setCells w2 g (s*10) (a8_ (aL_ x (.slice ao x.attrs.length acap)))));have hne:T.tb≠g:=fun e=>ai_ HR2.o HBk.o (by decide) (by rw[e];rfl);have hkeep:∀{B:Nat} {e:TypeId} {size n:Nat} {v:Value} {xs:List Value},World.ownsRow w2 B e size v n xs->e≠210->World.ownsRow (World.drew (World.setCells w2 g (s*10) (a8_ (aL_ x (.slice ao x.attrs.length acap))))) B e size v n xs:=fun {B e size n v xs} h1 h2=>
   World.ownsRow.drew (fl_ (fun e=>aQ_ h1 HR2.o h2 e rfl) _ _ _ h1)
  have HBk5:=hi_ (hG_ (dR_ hne (a8_ (aL_ x (.slice ao x.attrs.length acap))) (s*10) w2 HBk.o));have HR5:=hi_ (nO_ (ab_.put bv_ HR2.o hs1 (aL_ x (.slice ao x.attrs.length acap))));have HFr5:=hi_ (hkeep HFr2.o (by decide));have HAt5:=hi_ (fun q hq=>hkeep (HAt2.o q hq) (by decide));have HA5:=hi_ (hkeep HA2.o (by decide));have HF5:=hi_ (Frame.drew (bJ_ (S:=hB_ T (.slice (some ⟨g,0,none⟩) T.slots.length vcap)) (g:=g) (a8_ (aL_ x (.slice ao x.attrs.length acap))) (s*10) w2 HF2.o (Or.inl (Or.inr (Or.inl rfl)))));clear hkeep z0 z1 z2 z3 z4 z5 z6 z7 z8 z9 b0 b1 b2 b3 b4 b5 b6 b7 b8 b9 y0 y1 y2 y3 y4 y5 y6 y7 y8 d0 d1 d2 d4 g4 HBk HR2 HFr2 HAt2 HA2 HF2 HX2;generalize World.drew _=w5 at *;have hk1:T.frees.length-1=k:=by rw[HLk.o];rfl
  rw[HFv.o]at HFr5;have HM:=hi_ (mem_cons (r:=aL_ x (.slice ao x.attrs.length acap)) HGl.o (by rw[hk1];exact HBk5.o) HR5.o HFr5.o HAt5.o HA5.o (Nat.le_of_lt hlen) HT1.o.bb);obtain⟨hc,hfz⟩:=ae_ HBk5.o;have d0:=hc 0;have d1:=hc 1;have d4:=hc 4;have g4:=hfz 4 (by show 4<6;omega);simp only[List.getElem?_toArray,List.getElem?_cons_zero,List.getElem?_cons_succ]at d0 d1 d4;have HF6:=hi_ (Frame.set (S:=hB_ T (.slice (some ⟨g,0,none⟩) T.slots.length vcap)) HF5.o (Or.inl (Or.inl rfl)) 4 (.int .i64 (T.live+1)));have htb:=HBk5.o.lt;clear hc hfz HF5;go_wp2_with fail
  refine(QH.o _).mono ?_;rintro e w6 ⟨rfl,hb6⟩;go_wp2_with fail
  go_ret
  exact⟨g,vcap,.slice (some ⟨gf,0,none⟩) (T.frees.length-1) fcap',aE_ (congrArg (handle T.bs T.st) HNx.o.symm),HF6.o.below_ hb6,HM.o.below hb6,Or.inl rfl,by rw[HFv.o];rfl⟩
end A
end
end Go.Proofs.YtinphfpdfodkkaaGreatDoor
