/- Texts. -/
import Derived.Test.YtinphfpdfodkkaaGreatDoorP18
import Derived.Test.YtinphfpdfodkkaaGreatDoorP16
import Derived.Test.YtinphfpdfodkkaaGreatDoorP05
set_option linter.unusedVariables false
set_option linter.unusedSimpArgs false
set_option maxHeartbeats 8000000
set_option maxRecDepth 100000
namespace Go.Proofs.YtinphfpdfodkkaaGreatDoor
section
open Go.RowKit Go.Sort
namespace R
open H G A
theorem mNew(w:World):Calls Tryz.prog 93 #[] w fun e w'=>∃M,e=.returned (.pointer (some ⟨M.mb,0,none⟩))/\Below w.heap.size w w'/\ab_ w' M/\M.m=[aH_]/\w.heap.size<=M.B/\∀k,M.foot k->w.heap.size<=k:=by
 have HB:=hi_ ((((Below.refl w.heap.size w).alloc (nl_) (.cells #[.int .i64 1,.string ⟨#[]⟩,.slice none 0 0,.string ⟨#[]⟩,.int .i64 (-1),.slice none 0 0,.bool false] 105))).alloc (by simp) (.cells #[.slice (some ⟨w.heap.size,0,none⟩) 1 1] 102));have HB1:=hi_ (Blk.new (w.alloc (.cells #[.int .i64 1,.string ⟨#[]⟩,.slice none 0 0,.string ⟨#[]⟩,.int .i64 (-1),.slice none 0 0,.bool false] 105)) #[.slice (some ⟨w.heap.size,0,none⟩) 1 1] 102)
 have HO:Hid (World.ownsRow ((w.alloc (.cells #[.int .i64 1,.string ⟨#[]⟩,.slice none 0 0,.string ⟨#[]⟩,.int .i64 (-1),.slice none 0 0,.bool false] 105)).alloc (.cells #[.slice (some ⟨w.heap.size,0,none⟩) 1 1] 102)) w.heap.size 105 7 (.slice (some ⟨w.heap.size,0,none⟩) 1 1) 1 (bS_ ⟨aH_,.slice none 0 0,.slice none 0 0⟩)):=hi_ (by
  have h1:=World.ownsRow_lit (e:=105) (base:=w.heap.size) (size:=7) w #[.int .i64 1,.string ⟨#[]⟩,.slice none 0 0,.string ⟨#[]⟩,.int .i64 (-1),.slice none 0 0,.bool false] 1 (nl_) (by unfold maxLen;omega) (by simp);simp only[List.size_toArray]at h1;exact World.ownsRow.alloc (show World.ownsRow _ w.heap.size _ 7 (.slice (some ⟨w.heap.size,0,none⟩) 1 1) 1 [.int .i64 1,.string ⟨#[]⟩,.slice none 0 0,.string ⟨#[]⟩,.int .i64 (-1),.slice none 0 0,.bool false]from by simpa using h1) _)
 go_enter Tryz.func93,Tryz.ntmps93
 go_wp2_with fail
 go_ret
 refine⟨⟨w.heap.size+1,w.heap.size,1,[⟨aH_,.slice none 0 0,.slice none 0 0⟩],w.heap.size⟩,rfl,HB.out,⟨?_,?_,by simp,by simp,fun x hx=>?_,fun x hx=>?_,fun i j hi hj hne=>?_,fun i j hi hj hne=>?_⟩,rfl,nl_,fun k hk=>?_⟩
 ·have h1:=HB1.out
  rw[World.size_alloc]at h1;exact h1
 ·exact HO.out
 ·rw[List.mem_singleton.1 hx];exact World.ownsRow_nil _ _ _ _
 ·rw[List.mem_singleton.1 hx];exact World.ownsRow_nil _ _ _ _
 ·have hi:i<1:=hi
  have hj:j<1:=hj;omega
 ·have hi:i<1:=hi
  have hj:j<1:=hj;omega
 ·rcases hk with e|e|⟨x,hx,e⟩
  ·rw[e];show w.heap.size<=w.heap.size+1;omega
  ·rw[e];exact nl_
  ·rw[List.mem_singleton.1 hx]at e
   rcases e with e|e
   ·have e:(Value.slice none 0 0).ownBlock=some k:=e
    simp[Value.ownBlock]at e
   ·have e:(Value.slice none 0 0).ownBlock=some k:=e
    simp[Value.ownBlock]at e
theorem iE_(m:aa_)(h:Nat)(nm:List UInt8) :
  ((nd m h).kind≠2->aG_ m h nm=([],10,m))/\((nd m h).kind=2->bN_ m h nm=none->aG_ m h nm=([],0,m)) ∧
  (∀i,(nd m h).kind=2->bN_ m h nm=some i->aG_ m h nm=([bg_ h nm (((nd m h).attrs[i]?.map (·.2)).getD []) true],0,upd m h fun x=>{ x with attrs:=x.attrs.eraseIdx i })):=by
 refine⟨fun h1=>?_,fun h1 h3=>?_,fun i h1 h3=>?_⟩
 ·unfold aG_;rw[if_pos h1]
 ·unfold aG_;rw[if_neg (by simp[h1]),h3]
 ·unfold aG_;rw[if_neg (by simp[h1]),h3]
theorem co_:∀(l:List BB),∀u∈l.flatMap ai_,u.oneCell'=true:=by
 intro l u hu;obtain⟨a,_,ha⟩:=List.mem_flatMap.1 hu;unfold ai_ at ha;simp at ha
 rcases ha with e|e<;>rw[e]<;>rfl
theorem lw_(M:aF_)(h:Nat)(nm:List UInt8)(w:World)(hM:ab_ w M)(hh:h<M.nodes.length)(hl:(nd M.m h).attrs.length<=100000) :
  Calls Tryz.prog 68 #[.pointer (some ⟨M.mb,0,none⟩),.int .i64 h,.string ⟨nm.toArray⟩] w fun e w'=>∃v M',e=.returned (.tuple #[v,.int .i64 ((aG_ M.m h nm).2.1:Nat)])/\H.Frame M.foot w w'/\ab_ w' M'/\M'.m=(aG_ M.m h nm).2.2/\aO_ w M M'/\aJ_ w.heap.size w' v (aG_ M.m h nm).1:=by
 obtain⟨c0,l0,l1⟩:=hM.top;have k0:=(hM.cell hh).1;have k2:=(hM.cell hh).2.2.1;have n1:(h:Int)<(M.nodes.length:Int):=by omega
 have hfew:=hM.few;have HM:=hi_ hM;have Q3:=hi_ (mFind M h nm w hM hh (by omega));have hrow:=hM.attrsRow hh;obtain⟨ao,cap,hav⟩:=ac_.slice hrow;rw[hav]at k2 hrow;have HAv:=hi_ hav;have HRow:=hi_ hrow;have HSC:=hi_ (iE_ M.m h nm);obtain⟨R,hR⟩:∃R,R=aG_ M.m h nm:=⟨_,rfl⟩;rw[<-hR]at HSC ⊢;generalize hkd:(nd M.m h).kind=kd at *;clear hM hR hkd hrow hav
 go_enter Tryz.func68,Tryz.ntmps68
 by_cases hk:kd=2
 ·subst hk
  go_wp2_with fail
  refine Q3.out.mono ?_;rintro e w2 ⟨rfl,rfl⟩
  cases hat:bN_ M.m h nm with
  |none=>
   have HRs:=hi_ (HSC.out.2.1 trivial hat);clear hat;rw[show g9_ none=(-1:Int)from rfl];go_wp2_with fail
   refine bodyPost_ret (v:=.tuple #[.slice none 0 0,.int .i64 0]) (by simp[results,Tryz.results68,go_sem]) rfl ⟨.slice none 0 0,M,by rw[HRs.out];rfl,H.Frame.refl _ _,HM.out,by rw[HRs.out],aO_.refl _ _,by rw[HRs.out];exact aJ_.nil _ _⟩
  |some i=>
   have HRs:=hi_ (HSC.out.2.2 i trivial hat);rw[show g9_ (some i)=(i:Int)from rfl];obtain⟨hil,old,hold⟩:∃hil:i<(nd M.m h).attrs.length,∃old,((nd M.m h).attrs[i]'hil).2=old:=by
    unfold bN_ at hat;rw[List.findIdx?_eq_some_iff_getElem]at hat;obtain⟨h1,h2,_⟩:=hat;exact⟨h1,_,rfl⟩
   have HOld:Hid ((((nd M.m h).attrs[i]?.map (·.2)).getD [])=old):=hi_ (by rw[List.getElem?_eq_getElem hil];exact hold);obtain⟨ga,cap',hv',hga1,hga2,hgc⟩:=a1_ HRow.out (by omega);injection hv' with e1 _ e3
   subst e1 e3;have hc1:=(ac_.cell aq_ HRow.out hil (k:=1) (by omega)).1;have hc1':w.cell? ⟨ga,i*2+1,none⟩=some (.string ⟨old.toArray⟩):=by
    have h1:w.cell? ⟨ga,i*2+1,none⟩=some (.string ⟨((nd M.m h).attrs[i]).2.toArray⟩):=hc1;rw[hold]at h1;exact h1
   have hii:(i:Int)<((nd M.m h).attrs.length:Int):=by omega
   have HHn:Hid ((M.at_ h).av.ownBlock=some ga):=hi_ (by rw[HAv.out];rfl);have p0:(0:Int)<=(i:Int):=by omega
   have p4:(0:Int)<=(i:Int)+1:=by omega
   have p1:(i:Int)<=(cap:Int):=by omega
   have p2:(i:Int)+1<=((nd M.m h).attrs.length:Int):=by omega
   have p3:((nd M.m h).attrs.length:Int)<=(cap:Int):=by omega
   have wq:IntKind.i64.wrap ((i:Int)+1)=(i:Int)+1:=IntWalk.i64_in _ (by omega);have wq2:wrap64 ((i:Int)+1)=(i:Int)+1:=by unfold wrap64;omega
   generalize hal:(nd M.m h).attrs=al at *;have HAl:=hi_ hal;have HIl:=hi_ hil;have HGc:=hi_ hgc;clear hat hc1 hold hal hil hgc;go_upto_region 8 with fail
   have HRec:=hi_ (Blk.new w #[.int .i64 3,.int .i64 h,.int .i64 (-1),.int .i64 (-1),.int .i64 (-1),.int .i64 0,.string ⟨nm.toArray⟩,.string ⟨old.toArray⟩,.bool true,.int .i64 0,.int .i64 0] 71);have hbE:Below w.heap.size w (w.alloc (.cells #[.int .i64 3,.int .i64 h,.int .i64 (-1),.int .i64 (-1),.int .i64 (-1),.int .i64 0,.string ⟨nm.toArray⟩,.string ⟨old.toArray⟩,.bool true,.int .i64 0,.int .i64 0] 71)):=(Below.refl _ w).alloc (nl_) _;have HBE:=hi_ hbE;have HME:=hi_ (HM.out.below HBE.out);have HRowE:=hi_ (own_below HRow.out hbE);clear hbE k2 c0 l0 l1 k0 hc1';generalize hEE:w.heap.size=E at *
   generalize w.alloc (.cells #[.int .i64 3,.int .i64 h,.int .i64 (-1),.int .i64 (-1),.int .i64 (-1),.int .i64 0,.string ⟨nm.toArray⟩,.string ⟨old.toArray⟩,.bool true,.int .i64 0,.int .i64 0] 71)=wE at *;obtain⟨c0,l0,l1⟩:=HME.out.top;obtain⟨i0,hi0,hz0,hz1,hz2⟩:=info_parts eC_;have HCell:Hid (∀j u,(al.flatMap ai_)[j]?=some u->wE.cell? ⟨ga,j,none⟩=some u):=hi_ (fun j u hu=>by
    have hj:j<(al.flatMap ai_).length:=by
     rcases Nat.lt_or_ge j (al.flatMap ai_).length with h2|h2
     ·exact h2
     ·rw[List.getElem?_eq_none h2]at hu;cases hu
    rw[((ae_ HRowE.out).2.2.2 j hj).1,hu])
   have hga3:=(ae_ HRowE.out).1;have HGa:=hi_ hga3;have HOm:=hi_ (World.ownsRow_made (e:=143) (base:=wE.heap.size) (size:=2) wE #[] 0 (nl_) (Nat.zero_le _) rfl);have HN1:Hid (((al.take i).flatMap ai_).length=i*2):=hi_ (by rw[bL_ aq_,List.length_take];have:=HIl.out;omega);have HNl:Hid (((al.drop (i+1)).flatMap ai_).length=(al.length-(i+1))*2):=hi_ (by rw[bL_ aq_,List.length_drop]);have HN2:Hid (∀W',Below wE.heap.size wE W'->∀j u,((al.take i).flatMap ai_)[j]?=some u->W'.cell? ((⟨ga,0,none⟩:Addr).add j)=some u):=hi_ (fun W' hb j u hu=>by
    rw[ds_,Nat.zero_add];rw[<-eF_ aq_,List.getElem?_take]at hu
    split at hu
    ·exact(hb.cell (p:=⟨ga,j,none⟩) HGa.out).trans (HCell.out j u hu)
    ·cases hu)
   have HN4:Hid (∀W',Below wE.heap.size wE W'->∀j u,((al.drop (i+1)).flatMap ai_)[j]?=some u->W'.cell? ((if cap=i+1 then(⟨ga,0,none⟩:Addr) else⟨ga,(i+1)*2,none⟩).add j)=some u):=hi_ (fun W' hb j u hu=>by
    have hlt:j<((al.drop (i+1)).flatMap ai_).length:=by
     rcases Nat.lt_or_ge j ((al.drop (i+1)).flatMap ai_).length with h2|h2
     ·exact h2
     ·rw[List.getElem?_eq_none h2]at hu;cases hu
    rw[HNl.out]at hlt;have:=HGc.out;rw[if_neg (by omega),ds_];rw[<-eG_ aq_,List.getElem?_drop]at hu;exact(hb.cell (p:=⟨ga,(i+1)*2+j,none⟩) HGa.out).trans (HCell.out _ u hu))
   have hD0:=hi_ (((Below.refl wE.heap.size wE).alloc (nl_) (.cells #[] 143)).drew);have HEE:=hi_ hEE;clear hga1 hga2 hga3 hEE
   go_region_law (first
    | (refine bO_ (by rfl) _ _ 103 (by rfl) wE.heap.size 143 i0 _ 2 32 Tryz.underlying103 hi0 hz0 hz1 hz2 rfl (by decide) (.slice (some ⟨wE.heap.size, 0, none⟩) 0 0) 0 [] (by rfl) HOm.out.drew ⟨ga, 0, none⟩ i cap ((al.take i).flatMap ai_) (by rfl) HN1.out (HN2.out _ hD0.out) (co_ _) (by unfold maxLen; omega) (by omega) hD0.out.size ?_
       intro v1 w5 hown1 hgrow1 hnil1;rw[Nat.zero_add]at hown1;obtain⟨ao1,cap1,rfl⟩:=aX_ hown1;have HO1:=hi_ hown1;have HD5:=hi_ (hD0.out.grown hgrow1 hD0.out.size (fun k hk=>by simp[Value.ownBlock]at hk;omega));obtain⟨c05,l05,l15⟩:=(HME.out.below HD5.out).top;clear hown1 hgrow1 hnil1)
    | (refine bO_ (by rfl) _ _ 103 (by rfl) wE.heap.size 143 i0 _ 2 32 Tryz.underlying103 hi0 hz0 hz1 hz2 rfl (by decide) (.slice ao1 i cap1) i ([] ++ (al.take i).flatMap ai_) (by rfl) HO1.out (if cap = i + 1 then (⟨ga, 0, none⟩ : Addr) else ⟨ga, (i + 1) * 2, none⟩) (al.length - (i + 1)) (cap - (i + 1)) ((al.drop (i + 1)).flatMap ai_) (by show Value.slice (if cap = i + 1 then some (⟨ga, 0, none⟩ : Addr) else some ⟨ga, (i + 1) * 2, none⟩) (al.length - (i + 1)) (cap - (i + 1)) = _; split <;> rfl) HNl.out (HN4.out _ HD5.out) (co_ _) (by unfold maxLen; omega) (by omega) HD5.out.size ?_
       intro v2 w6 hown2 hgrow2 hnil2;obtain⟨ao2,cap2,rfl⟩:=aX_ hown2;have HO2:=hi_ hown2;have HD6:=hi_ (HD5.out.grown hgrow2 HD5.out.size (fun k hk=>(HO1.out.lt k hk).1));have HM6:=hi_ (HME.out.below HD6.out);obtain⟨c06,l06,l16⟩:=HM6.out.top;have g2:=(ac_.cell aT_ HM6.out.row hh (k:=2) (by omega)).2;have j2:=(HM6.out.cell hh).2.2.1;rw[HAv.out]at j2;clear hown2 hgrow2 hnil2))
   all_goals (
    have hnn:i+(al.length-(i+1))=(al.eraseIdx i).length:=by rw[List.length_eraseIdx_of_lt HIl.out];have:=HIl.out;omega
    have hbe:=HBE.out;rw[<-HEE.out]at hbe;have HR6:=hi_ (show ac_ ai_ M.B 143 2 w6 (.slice ao2 (i+(al.length-(i+1))) cap2) (al.eraseIdx i)from by
     have h5:=b8_ HO2.out (show M.B<=wE.heap.size by have:=HME.out.bb;omega);rw[List.nil_append,<-List.flatMap_append,<-List.eraseIdx_eq_take_drop_succ]at h5;unfold ac_;rw[<-hnn];exact h5)
    have HM7:=hi_ ((HM6.out.rest hh (H.Frame.refl _ w6)).put hh HR6.out (fun j hj hne g hg e=>by
     have h1:=(World.ownsRow.lt HO2.out g hg).1;have h2:=(World.ownsRow.lt (HME.out.attrs _ (aF_.at_mem hj).2) g e).2
     omega))
    have HF7:=hi_ (Frame.set (S:=M.foot) ((H.Frame.of (S:=M.foot) hbe).below_ HD6.out) (Or.inl (Or.inr (Or.inl rfl))) (h*7+2) (.slice ao2 (i+(al.length-(i+1))) cap2));have HRc7:=hi_ ((HRec.out.below HD6.out).far (show E≠M.g from fun e=>ak_ HME.out.row HRec.out (by decide) (by rw[e];rfl)) (h*7+2) (.slice ao2 (i+(al.length-(i+1))) cap2));have HL7:Hid (aO_ w M (M.modN h fun x=>{ x with av:=.slice ao2 (i+(al.length-(i+1))) cap2,n:={ x.n with attrs:=al.eraseIdx i } })):=hi_ ⟨rfl,rfl,fun k hk=>by
     rcases b2_ hh hk with h1|h1|h1
     ·exact Or.inl h1
     ·exact Or.inl (Or.inr (Or.inr ⟨_,(aF_.at_mem hh).2,Or.inl h1⟩))
     ·right
      have h2:=(World.ownsRow.lt HO2.out k h1).1;have h3:=hbe.size
      omega⟩
    have Hm7:Hid ((M.modN h fun x=>{ x with av:=.slice ao2 (i+(al.length-(i+1))) cap2,n:={ x.n with attrs:=al.eraseIdx i } }).m=upd M.m h fun x=>{ x with attrs:=x.attrs.eraseIdx i }):=hi_ (by
     rw[d9_ M h _ (fun x=>{ x with attrs:=al.eraseIdx i }) (fun x=>rfl)];refine i4_ (by rw[M.m_len];exact hh) ?_;rw[HAl.out])
    generalize (M.modN h fun x=>{ x with av:=.slice ao2 (i+(al.length-(i+1))) cap2,n:={ x.n with attrs:=al.eraseIdx i } })=M7 at *;clear hbe hnn HR6 c06 l06 l16 g2 j2 c05 l05 l15 c0 l0 l1 HO2 HO1;generalize World.setCell w6 ⟨M.g,h*7+2,none⟩ _=w9 at *;obtain⟨⟨r0,r1,r2,r3,r4,r5,r6,r7,r8,r9,r10⟩,_⟩:=bm_ HRc7.out;have hlE:=HRc7.out.lt;have hrec:=hi_ (ev_ (base:=w.heap.size) (w:=w9) (r:=bg_ h nm old true) (cs:=#[.int .i64 3,.int .i64 h,.int .i64 (-1),.int .i64 (-1),.int .i64 (-1),.int .i64 0,.string ⟨nm.toArray⟩,.string ⟨old.toArray⟩,.bool true,.int .i64 0,.int .i64 0]) rfl HF7.out.size);generalize (if cap=i+1 then some (⟨ga,0,none⟩:Addr)else some ⟨ga,(i+1)*2,none⟩)=adx at *;go_wp2_with fail
    rw[HOld.out]at HRs;refine bodyPost_ret (v:=.tuple #[.slice (some ⟨w9.heap.size,0,none⟩) 1 1,.int .i64 0]) (by simp[results,Tryz.results68,go_sem]) rfl ⟨_,M7,by rw[HRs.out];rfl,HF7.out.alloc _,HM7.out.below ((br_).alloc (nl_) _),by rw[HRs.out];exact Hm7.out,HL7.out,by rw[HRs.out];exact hrec.out⟩)
 ·have HRs:=hi_ (HSC.out.1 hk)
  have e2:((kd:Int) != 2)=true:=bne_iff_ne.2 (by omega);clear hk;go_wp2_with fail
  refine bodyPost_ret (v:=.tuple #[.slice none 0 0,.int .i64 10]) (by simp[results,Tryz.results68,go_sem]) rfl ⟨.slice none 0 0,M,by rw[HRs.out];rfl,H.Frame.refl _ _,HM.out,by rw[HRs.out],aO_.refl _ _,by rw[HRs.out];exact aJ_.nil _ _⟩
theorem ml_(M:aF_)(x:bX_)(g cap j:Nat):(({ M with g:=g,cap:=cap,nodes:=M.nodes++[x] }:aF_).at_ j)=if j=M.nodes.length then x else M.at_ j:=by
 unfold aF_.at_;show(M.nodes++[x]).getD j n7_=_;rw[List.getD_eq_getElem?_getD,List.getD_eq_getElem?_getD]
 rcases Nat.lt_trichotomy j M.nodes.length with h|h|h
 ·rw[if_neg (by omega),List.getElem?_append_left h]
 ·rw[if_pos h,h,List.getElem?_append_right (nl_),Nat.sub_self];rfl
 ·rw[if_neg (by omega),List.getElem?_eq_none (by simp;omega),List.getElem?_eq_none (by omega)]
theorem ab_.push{w w':World}{M:aF_}{x:bX_}{g cap:Nat}(h:ab_ w M)(f:H.Frame (fun k=>k=M.g) w w')(hlen:M.nodes.length<1000000)
  (hr:w'.ownsRow M.B 105 7 (.slice (some ⟨g,0,none⟩) (M.nodes.length+1) cap) (M.nodes.length+1) (M.nodes.flatMap bS_++bS_ x))
  (hk:b4_ M.B w' x.kv x.n.kids) (ha:ac_ ai_ M.B 143 2 w' x.av x.n.attrs)
  (hk2:∀j,j<M.nodes.length->∀g,x.kv.ownBlock=some g->(M.at_ j).kv.ownBlock≠some g) (ha2:∀j,j<M.nodes.length->∀g,x.av.ownBlock=some g->(M.at_ j).av.ownBlock≠some g) :
  ab_ (w'.setCell ⟨M.mb,0,none⟩ (.slice (some ⟨g,0,none⟩) (M.nodes.length+1) cap)) { M with g:=g,cap:=cap,nodes:=M.nodes++[x] }:=by
 have hb:=h.blk.frame f (fun e=>ak_ h.row h.blk (by decide) (by rw[e];rfl));have hfar:∀{B:Nat} {e:TypeId} {size n:Nat} {v:Value} {xs:List Value},w'.ownsRow B e size v n xs->e≠102->World.ownsRow (w'.setCell ⟨M.mb,0,none⟩ (.slice (some ⟨g,0,none⟩) (M.nodes.length+1) cap)) B e size v n xs:=fun h1 h2=>au_ h1 (ak_ h1 hb h2) _ _;have hold:∀{B:Nat} {e:TypeId} {size n:Nat} {v:Value} {xs:List Value},w.ownsRow B e size v n xs->e≠105->w'.ownsRow B e size v n xs:=fun h1 h2=>ah_ h1 f (fun k hk e=>aU_ h1 h.row h2 hk (by rw[e];rfl));refine⟨?_,?_,by simp;omega,h.bb,fun y hy=>?_,fun y hy=>?_,fun i j hi hj hne k hk1=>?_,fun i j hi hj hne k hk1=>?_⟩
 ·have h9:=hb.set 0 (.slice (some ⟨g,0,none⟩) (M.nodes.length+1) cap)
  simp only[List.setIfInBounds_toArray,List.set_cons_zero]at h9;simpa using h9
 ·have h9:=hfar hr (by decide)
  unfold ac_;simpa using h9
 ·rcases List.mem_append.1 hy with hy|hy
  ·exact hfar (hold (h.kids y hy) (by decide)) (by decide)
  ·rw[List.mem_singleton.1 hy];exact hfar hk (by decide)
 ·rcases List.mem_append.1 hy with hy|hy
  ·exact hfar (hold (h.attrs y hy) (by decide)) (by decide)
  ·rw[List.mem_singleton.1 hy];exact hfar ha (by decide)
 ·have hi:i<(M.nodes++[x]).length:=hi
  have hj:j<(M.nodes++[x]).length:=hj;simp at hi hj;rw[ml_]at hk1 ⊢
  by_cases ei:i=M.nodes.length
  ·rw[if_pos ei]at hk1
   rw[if_neg (by omega)];exact hk2 j (by omega) k hk1
  ·rw[if_neg ei]at hk1
   by_cases ej:j=M.nodes.length
   ·rw[if_pos ej];exact fun h5=>hk2 i (by omega) k h5 hk1
   ·rw[if_neg ej];exact h.kapart i j (by omega) (by omega) hne k hk1
 ·have hi:i<(M.nodes++[x]).length:=hi
  have hj:j<(M.nodes++[x]).length:=hj;simp at hi hj;rw[ml_]at hk1 ⊢
  by_cases ei:i=M.nodes.length
  ·rw[if_pos ei]at hk1
   rw[if_neg (by omega)];exact ha2 j (by omega) k hk1
  ·rw[if_neg ei]at hk1
   by_cases ej:j=M.nodes.length
   ·rw[if_pos ej];exact fun h5=>ha2 i (by omega) k h5 hk1
   ·rw[if_neg ej];exact h.aapart i j (by omega) (by omega) hne k hk1
theorem iF_(l:List UInt8)(w:World)(hs:l.length<=1000000)(hv:U.rep l=l) :
  Calls Tryz.prog 57 #[.string ⟨l.toArray⟩] w fun e w'=>∃v,e=.returned v/\w'.ownsRow w.heap.size 9 1 v (U.pts l).length (T.strs (U.pts l))/\Below w.heap.size w w':=by
 have h:=T.refPoints ⟨l.toArray⟩ w (by rw[H.aM_];exact hs);have hd:(⟨l.toArray⟩:ByteArray).data.toList=l:=by simp
 have hr:U.raw l=U.pts l:=by
  have h1:=U.jX_ l
  rwa [hv]at h1
 rw[hd,hr]at h;exact h
theorem is_{w:World}{base:Nat}{v:Value}{l:List (List UInt8)}(h:w.ownsRow base 9 1 v l.length (T.strs l)):∃ao cap,v=.slice ao l.length cap/\T.StrRow w ao l:=by
 rcases h.2 with⟨h1,h2⟩|⟨g,cap,cur,h1,hb,hg,hn,hm,hc,ht⟩
 ·exact⟨none,0,by rw[h1,h2],fun hl=>by omega⟩
 ·refine⟨_,cap,h1,fun hl=>⟨g,rfl,lt_of_block hg,fun j hj=>?_⟩⟩
  have h3:=h;rw[h1]at h3;have h4:=((ae_ h3).2.2.2 j (by rw[T.strs_length];omega)).1;rw[h4];unfold T.strs;rw[List.getElem?_map,List.getElem?_eq_getElem hj,List.getD_eq_getElem?_getD,List.getElem?_eq_getElem hj];rfl
theorem mSize(M:aF_)(i:Nat)(w:World)(h:ab_ w M)(hi:i<M.nodes.length)(hd:(nd M.m i).data.length<=1000000)(hv:U.rep (nd M.m i).data=(nd M.m i).data) :
  Calls Tryz.prog 37 #[.pointer (some ⟨M.mb,0,none⟩),.int .i64 i] w fun e w'=>e=.returned (.int .i64 (G.sizeOf M.m i:Nat))/\Below w.heap.size w w':=by
 obtain⟨c0,l0,l1⟩:=h.top;obtain⟨k0,_,_,k3,_,k5,_⟩:=h.cell hi;obtain⟨ao,cap,hkv,_⟩:=b4_.form (h.kidsRow hi);rw[hkv]at k5;have n1:(i:Int)<(M.nodes.length:Int):=by omega
 have n0:(0:Int)<=(i:Int):=by omega
 have hfew:=h.few;have HS:Hid (G.sizeOf M.m i=if 2<(nd M.m i).kind then(U.pts (nd M.m i).data).length else(nd M.m i).kids.length):=hi_ rfl;have Q:=hi_ (iF_ (nd M.m i).data w hd hv);generalize G.sizeOf M.m i=sz at *;generalize (nd M.m i).kind=kd at *;generalize (nd M.m i).data=dt at *;generalize (nd M.m i).kids.length=kl at *;clear h hkv hd hv
 by_cases hk:2<kd
 ·have hk1:(2:Int)<(kd:Int):=by omega
  have HF:Hid (sz=(U.pts dt).length):=hi_ (by rw[HS.out,if_pos hk]);clear hk HS
  go_enter Tryz.func37,Tryz.ntmps37
  go_wp2_with fail
  refine Q.out.mono ?_;rintro e w1 ⟨v,rfl,hown,hb⟩;obtain⟨ao2,cap2,hv2,_⟩:=is_ hown;subst hv2;have HB:=hi_ hb;clear hown hb Q;go_wp2_with fail
  go_ret
  exact⟨ay_ (by rw[HF.out]),HB.out⟩
 ·have hk1:¬(2:Int)<(kd:Int):=by omega
  have HF:Hid (sz=kl):=hi_ (by rw[HS.out,if_neg hk]);clear hk HS Q
  go_enter Tryz.func37,Tryz.ntmps37
  go_wp2_with fail
  go_ret
  exact⟨ay_ (by rw[HF.out]),br_⟩
end R
end
end Go.Proofs.YtinphfpdfodkkaaGreatDoor
