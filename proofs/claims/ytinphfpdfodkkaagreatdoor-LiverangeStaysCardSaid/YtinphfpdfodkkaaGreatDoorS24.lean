/- Texts. -/
import Derived.Test.YtinphfpdfodkkaaGreatDoorS21
import Derived.Test.YtinphfpdfodkkaaGreatDoorS19
set_option linter.unusedVariables false
set_option linter.unusedSimpArgs false
set_option maxHeartbeats 8000000
set_option maxRecDepth 100000
namespace Go.Proofs.YtinphfpdfodkkaaGreatDoor
section
open Go.RowKit Go.Sort
namespace R
open H G A
theorem mNew(w:World):Calls Tryz.prog 93 #[] w fun e w'=>∃M,e=.returned (.pointer (some ⟨M.mb,0,none⟩))/\Below w.heap.size w w'/\ac_ w' M/\M.m=[aG_]/\w.heap.size<=M.B/\∀k,M.foot k->w.heap.size<=k:=by
 have HB:=hi_ ((((Below.refl w.heap.size w).alloc (nl_) (.cells #[.int .i64 1,.string ⟨#[]⟩,.slice none 0 0,.string ⟨#[]⟩,.int .i64 (-1),.slice none 0 0,.bool false] 105))).alloc (by simp) (.cells #[.slice (some ⟨w.heap.size,0,none⟩) 1 1] 102));have HB1:=hi_ (Blk.new (w.alloc (.cells #[.int .i64 1,.string ⟨#[]⟩,.slice none 0 0,.string ⟨#[]⟩,.int .i64 (-1),.slice none 0 0,.bool false] 105)) #[.slice (some ⟨w.heap.size,0,none⟩) 1 1] 102)
 have HO:Hd (World.ownsRow ((w.alloc (.cells #[.int .i64 1,.string ⟨#[]⟩,.slice none 0 0,.string ⟨#[]⟩,.int .i64 (-1),.slice none 0 0,.bool false] 105)).alloc (.cells #[.slice (some ⟨w.heap.size,0,none⟩) 1 1] 102)) w.heap.size 105 7 (.slice (some ⟨w.heap.size,0,none⟩) 1 1) 1 (bU_ ⟨aG_,.slice none 0 0,.slice none 0 0⟩)):=hi_ (by
  have h1:=World.ownsRow_lit (e:=105) (base:=w.heap.size) (size:=7) w #[.int .i64 1,.string ⟨#[]⟩,.slice none 0 0,.string ⟨#[]⟩,.int .i64 (-1),.slice none 0 0,.bool false] 1 (nl_) (by unfold maxLen;omega) (by simp);simp only[List.size_toArray]at h1;exact World.ownsRow.alloc (show World.ownsRow _ w.heap.size _ 7 (.slice (some ⟨w.heap.size,0,none⟩) 1 1) 1 [.int .i64 1,.string ⟨#[]⟩,.slice none 0 0,.string ⟨#[]⟩,.int .i64 (-1),.slice none 0 0,.bool false]from by simpa using h1) _)
 go_enter Tryz.func93,Tryz.ntmps93
 go_wp2_with fail
 go_ret
 refine⟨⟨w.heap.size+1,w.heap.size,1,[⟨aG_,.slice none 0 0,.slice none 0 0⟩],w.heap.size⟩,rfl,HB.o,⟨?_,?_,by simp,by simp,fun x hx=>?_,fun x hx=>?_,fun i j hi hj hne=>?_,fun i j hi hj hne=>?_⟩,rfl,nl_,fun k hk=>?_⟩
 ·have h1:=HB1.o
  rw[World.size_alloc]at h1;exact h1
 ·exact HO.o
 ·rw[List.mem_singleton.1 hx];exact World.ownsRow_nil _ _ _ _
 ·rw[List.mem_singleton.1 hx];exact World.ownsRow_nil _ _ _ _
 ·have hi:i<1:=hi
  have hj:j<1:=hj;omega
 ·have hi:i<1:=hi
  have hj:j<1:=hj;omega
 rcases hk with e|e|⟨x,hx,e⟩
 ·rw[e];show w.heap.size<=w.heap.size+1;omega
 ·rw[e];exact nl_
 rw[List.mem_singleton.1 hx]at e
 rcases e with e|e
 ·have e:(Value.slice none 0 0).ownBlock=some k:=e
  simp[Value.ownBlock]at e
 have e:(Value.slice none 0 0).ownBlock=some k:=e;simp[Value.ownBlock]at e
theorem jg_(m:aa_)(h:Nat)(nm:List UInt8) :
  ((nd m h).kind≠2->ax_ m h nm=([],10,m))/\((nd m h).kind=2->bj_ m h nm=none->ax_ m h nm=([],0,m)) ∧
  (∀i,(nd m h).kind=2->bj_ m h nm=some i->ax_ m h nm=([aM_ h nm (((nd m h).attrs[i]?.map (·.2)).getD []) true],0,upd m h fun x=>{ x with attrs:=x.attrs.eraseIdx i })):=by
 refine⟨fun h1=>?_,fun h1 h3=>?_,fun i h1 h3=>?_⟩
 ·unfold ax_;rw[if_pos h1]
 ·unfold ax_;rw[if_neg (by simp[h1]),h3]
 unfold ax_;rw[if_neg (by simp[h1]),h3]
theorem cw_:∀(l:List BB),∀u∈l.flatMap aj_,u.oneCell'=true:=by
 intro l u hu;obtain⟨a,_,ha⟩:=List.mem_flatMap.1 hu;unfold aj_ at ha;simp at ha
 rcases ha with e|e<;>rw[e]<;>rfl
theorem mk_(M:aJ_)(h:Nat)(nm:List UInt8)(w:World)(hM:ac_ w M)(hh:h<M.nodes.length)(hl:(nd M.m h).attrs.length<=100000) :
  Calls Tryz.prog 68 #[.pointer (some ⟨M.mb,0,none⟩),.int .i64 h,.string ⟨nm.toArray⟩] w fun e w'=>∃v M',e=.returned (.tuple #[v,.int .i64 ((ax_ M.m h nm).2.1:Nat)])/\H.Frame M.foot w w'/\ac_ w' M'/\M'.m=(ax_ M.m h nm).2.2/\aO_ w M M'/\aI_ w.heap.size w' v (ax_ M.m h nm).1:=by
 obtain⟨c0,l0,l1⟩:=hM.top;have k0:=(hM.cell hh).1;have k2:=(hM.cell hh).2.2.1;have n1:(h:Int)<(M.nodes.length:Int):=by omega
 have hfew:=hM.few;have HM:=hi_ hM;have Q3:=hi_ (mFind M h nm w hM hh (by omega));have hrow:=hM.attrsRow hh;obtain⟨ao,cap,hav⟩:=ab_.slice hrow;rw[hav]at k2 hrow;have HAv:=hi_ hav;have HRow:=hi_ hrow;have HSC:=hi_ (jg_ M.m h nm);obtain⟨R,hR⟩:∃R,R=ax_ M.m h nm:=⟨_,rfl⟩;rw[<-hR]at HSC ⊢;generalize hkd:(nd M.m h).kind=kd at *;clear hM hR hkd hrow hav
 go_enter Tryz.func68,Tryz.ntmps68
 by_cases hk:kd=2
 ·subst hk
  go_wp2_with fail
  refine Q3.o.mono ?_;rintro e w2 ⟨rfl,rfl⟩
  cases hat:bj_ M.m h nm with
  |none=>
   have HRs:=hi_ (HSC.o.2.1 trivial hat);clear hat;rw[show hL_ none=(-1:Int)from rfl];go_wp2_with fail
   refine bodyPost_ret (v:=.tuple #[.slice none 0 0,.int .i64 0]) (by simp[results,Tryz.results68,go_sem]) rfl ⟨.slice none 0 0,M,by rw[HRs.o];rfl,H.Frame.refl _ _,HM.o,by rw[HRs.o],aO_.refl _ _,by rw[HRs.o];exact aI_.nil _ _⟩
  |some i=>
   have HRs:=hi_ (HSC.o.2.2 i trivial hat);rw[show hL_ (some i)=(i:Int)from rfl];obtain⟨hil,old,hold⟩:∃hil:i<(nd M.m h).attrs.length,∃old,((nd M.m h).attrs[i]'hil).2=old:=by
    unfold bj_ at hat;rw[List.findIdx?_eq_some_iff_getElem]at hat;obtain⟨h1,h2,_⟩:=hat;exact⟨h1,_,rfl⟩
   have HOld:Hd ((((nd M.m h).attrs[i]?.map (·.2)).getD [])=old):=hi_ (by rw[List.getElem?_eq_getElem hil];exact hold);obtain⟨ga,cap',hv',hga1,hga2,hgc⟩:=a1_ HRow.o (by omega);injection hv' with e1 _ e3
   subst e1 e3;have hc1:=(ab_.cell ar_ HRow.o hil (k:=1) (by omega)).1;have hc1':w.cell? ⟨ga,i*2+1,none⟩=some (.string ⟨old.toArray⟩):=by
    have h1:w.cell? ⟨ga,i*2+1,none⟩=some (.string ⟨((nd M.m h).attrs[i]).2.toArray⟩):=hc1;rw[hold]at h1;exact h1
   have hii:(i:Int)<((nd M.m h).attrs.length:Int):=by omega
   have HHn:Hd ((M.at_ h).av.ownBlock=some ga):=hi_ (by rw[HAv.o];rfl);have p0:(0:Int)<=(i:Int):=by omega
   have p4:(0:Int)<=(i:Int)+1:=by omega
   have p1:(i:Int)<=(cap:Int):=by omega
   have p2:(i:Int)+1<=((nd M.m h).attrs.length:Int):=by omega
   have p3:((nd M.m h).attrs.length:Int)<=(cap:Int):=by omega
   have wq:IntKind.i64.wrap ((i:Int)+1)=(i:Int)+1:=IntWalk.i64_in _ (by omega);have wq2:wrap64 ((i:Int)+1)=(i:Int)+1:=by unfold wrap64;omega
   generalize hal:(nd M.m h).attrs=al at *;have HAl:=hi_ hal;have HIl:=hi_ hil;have HGc:=hi_ hgc;clear hat hc1 hold hal hil hgc;go_upto_region 8 with fail
   have HRec:=hi_ (Blk.new w #[.int .i64 3,.int .i64 h,.int .i64 (-1),.int .i64 (-1),.int .i64 (-1),.int .i64 0,.string ⟨nm.toArray⟩,.string ⟨old.toArray⟩,.bool true,.int .i64 0,.int .i64 0] 71);have hbE:Below w.heap.size w (w.alloc (.cells #[.int .i64 3,.int .i64 h,.int .i64 (-1),.int .i64 (-1),.int .i64 (-1),.int .i64 0,.string ⟨nm.toArray⟩,.string ⟨old.toArray⟩,.bool true,.int .i64 0,.int .i64 0] 71)):=(Below.refl _ w).alloc (nl_) _;have HBE:=hi_ hbE;have HME:=hi_ (HM.o.below HBE.o);have HRowE:=hi_ (own_below HRow.o hbE);clear hbE k2 c0 l0 l1 k0 hc1';generalize hEE:w.heap.size=E at *
   generalize w.alloc (.cells #[.int .i64 3,.int .i64 h,.int .i64 (-1),.int .i64 (-1),.int .i64 (-1),.int .i64 0,.string ⟨nm.toArray⟩,.string ⟨old.toArray⟩,.bool true,.int .i64 0,.int .i64 0] 71)=wE at *;obtain⟨c0,l0,l1⟩:=HME.o.top;obtain⟨i0,hi0,hz0,hz1,hz2⟩:=info_parts eP_;have HCell:Hd (∀j u,(al.flatMap aj_)[j]?=some u->wE.cell? ⟨ga,j,none⟩=some u):=hi_ (fun j u hu=>by
    have hj:j<(al.flatMap aj_).length:=by
     rcases Nat.lt_or_ge j (al.flatMap aj_).length with h2|h2
     ·exact h2
     rw[List.getElem?_eq_none h2]at hu;cases hu
    rw[((ad_ HRowE.o).2.2.2 j hj).1,hu])
   have hga3:=(ad_ HRowE.o).1;have HGa:=hi_ hga3;have HOm:=hi_ (World.ownsRow_made (e:=143) (base:=wE.heap.size) (size:=2) wE #[] 0 (nl_) (Nat.zero_le _) rfl);have HN1:Hd (((al.take i).flatMap aj_).length=i*2):=hi_ (by rw[bY_ ar_,List.length_take];have:=HIl.o;omega);have HNl:Hd (((al.drop (i+1)).flatMap aj_).length=(al.length-(i+1))*2):=hi_ (by rw[bY_ ar_,List.length_drop]);have HN2:Hd (∀W',Below wE.heap.size wE W'->∀j u,((al.take i).flatMap aj_)[j]?=some u->W'.cell? ((⟨ga,0,none⟩:Addr).add j)=some u):=hi_ (fun W' hb j u hu=>by
    rw[dK_,Nat.zero_add];rw[<-eS_ ar_,List.getElem?_take]at hu
    split at hu
    ·exact(hb.cell (p:=⟨ga,j,none⟩) HGa.o).trans (HCell.o j u hu)
    cases hu)
   have HN4:Hd (∀W',Below wE.heap.size wE W'->∀j u,((al.drop (i+1)).flatMap aj_)[j]?=some u->W'.cell? ((if cap=i+1 then(⟨ga,0,none⟩:Addr) else⟨ga,(i+1)*2,none⟩).add j)=some u):=hi_ (fun W' hb j u hu=>by
    have hlt:j<((al.drop (i+1)).flatMap aj_).length:=by
     rcases Nat.lt_or_ge j ((al.drop (i+1)).flatMap aj_).length with h2|h2
     ·exact h2
     rw[List.getElem?_eq_none h2]at hu;cases hu
    rw[HNl.o]at hlt;have:=HGc.o;rw[if_neg (by omega),dK_];rw[<-eT_ ar_,List.getElem?_drop]at hu;exact(hb.cell (p:=⟨ga,(i+1)*2+j,none⟩) HGa.o).trans (HCell.o _ u hu))
   have hD0:=hi_ (((Below.refl wE.heap.size wE).alloc (nl_) (.cells #[] 143)).drew);have HEE:=hi_ hEE;clear hga1 hga2 hga3 hEE
   go_region_law (first
    | (refine bO_ (by rfl) _ _ 103 (by rfl) wE.heap.size 143 i0 _ 2 32 Tryz.underlying103 hi0 hz0 hz1 hz2 rfl (by decide) (.slice (some ⟨wE.heap.size, 0, none⟩) 0 0) 0 [] (by rfl) HOm.o.drew ⟨ga, 0, none⟩ i cap ((al.take i).flatMap aj_) (by rfl) HN1.o (HN2.o _ hD0.out) (cw_ _) (by unfold maxLen; omega) (by omega) hD0.out.size ?_
       intro v1 w5 hown1 hgrow1 hnil1;rw[Nat.zero_add]at hown1;obtain⟨ao1,cap1,rfl⟩:=aY_ hown1;have HO1:=hi_ hown1;have HD5:=hi_ (hD0.out.grown hgrow1 hD0.out.size (fun k hk=>by simp[Value.ownBlock]at hk;omega));obtain⟨c05,l05,l15⟩:=(HME.o.below HD5.o).top;clear hown1 hgrow1 hnil1)
    | (refine bO_ (by rfl) _ _ 103 (by rfl) wE.heap.size 143 i0 _ 2 32 Tryz.underlying103 hi0 hz0 hz1 hz2 rfl (by decide) (.slice ao1 i cap1) i ([] ++ (al.take i).flatMap aj_) (by rfl) HO1.o (if cap = i + 1 then (⟨ga, 0, none⟩ : Addr) else ⟨ga, (i + 1) * 2, none⟩) (al.length - (i + 1)) (cap - (i + 1)) ((al.drop (i + 1)).flatMap aj_) (by show Value.slice (if cap = i + 1 then some (⟨ga, 0, none⟩ : Addr) else some ⟨ga, (i + 1) * 2, none⟩) (al.length - (i + 1)) (cap - (i + 1)) = _; split <;> rfl) HNl.o (HN4.o _ HD5.o) (cw_ _) (by unfold maxLen; omega) (by omega) HD5.o.size ?_
       intro v2 w6 hown2 hgrow2 hnil2;obtain⟨ao2,cap2,rfl⟩:=aY_ hown2;have HO2:=hi_ hown2;have HD6:=hi_ (HD5.o.grown hgrow2 HD5.o.size (fun k hk=>(HO1.o.lt k hk).1));have HM6:=hi_ (HME.o.below HD6.o);obtain⟨c06,l06,l16⟩:=HM6.o.top;have g2:=(ab_.cell aV_ HM6.o.row hh (k:=2) (by omega)).2;have j2:=(HM6.o.cell hh).2.2.1;rw[HAv.o]at j2;clear hown2 hgrow2 hnil2))
   all_goals (
    have hnn:i+(al.length-(i+1))=(al.eraseIdx i).length:=by rw[List.length_eraseIdx_of_lt HIl.o];have:=HIl.o;omega
    have hbe:=HBE.o;rw[<-HEE.o]at hbe;have HR6:=hi_ (show ab_ aj_ M.B 143 2 w6 (.slice ao2 (i+(al.length-(i+1))) cap2) (al.eraseIdx i)from by
     have h5:=ca_ HO2.o (show M.B<=wE.heap.size by have:=HME.o.bb;omega);rw[List.nil_append,<-List.flatMap_append,<-List.eraseIdx_eq_take_drop_succ]at h5;unfold ab_;rw[<-hnn];exact h5)
    have HM7:=hi_ ((HM6.o.rest hh (H.Frame.refl _ w6)).put hh HR6.o (fun j hj hne g hg e=>by
     have h1:=(World.ownsRow.lt HO2.o g hg).1;have h2:=(World.ownsRow.lt (HME.o.attrs _ (aJ_.at_mem hj).2) g e).2
     omega))
    have HF7:=hi_ (Frame.set (S:=M.foot) ((H.Frame.of (S:=M.foot) hbe).below_ HD6.o) (Or.inl (Or.inr (Or.inl rfl))) (h*7+2) (.slice ao2 (i+(al.length-(i+1))) cap2));have HRc7:=hi_ ((HRec.o.below HD6.o).far (show E≠M.g from fun e=>ai_ HME.o.row HRec.o (by decide) (by rw[e];rfl)) (h*7+2) (.slice ao2 (i+(al.length-(i+1))) cap2));have HL7:Hd (aO_ w M (M.modN h fun x=>{ x with av:=.slice ao2 (i+(al.length-(i+1))) cap2,n:={ x.n with attrs:=al.eraseIdx i } })):=hi_ ⟨rfl,rfl,fun k hk=>by
     rcases b5_ hh hk with h1|h1|h1
     ·exact Or.inl h1
     ·exact Or.inl (Or.inr (Or.inr ⟨_,(aJ_.at_mem hh).2,Or.inl h1⟩))
     right;have h2:=(World.ownsRow.lt HO2.o k h1).1
     have h3:=hbe.size
     omega⟩
    have Hm7:Hd ((M.modN h fun x=>{ x with av:=.slice ao2 (i+(al.length-(i+1))) cap2,n:={ x.n with attrs:=al.eraseIdx i } }).m=upd M.m h fun x=>{ x with attrs:=x.attrs.eraseIdx i }):=hi_ (by
     rw[el_ M h _ (fun x=>{ x with attrs:=al.eraseIdx i }) (fun x=>rfl)];refine jD_ (by rw[M.m_len];exact hh) ?_;rw[HAl.o])
    generalize (M.modN h fun x=>{ x with av:=.slice ao2 (i+(al.length-(i+1))) cap2,n:={ x.n with attrs:=al.eraseIdx i } })=M7 at *;clear hbe hnn HR6 c06 l06 l16 g2 j2 c05 l05 l15 c0 l0 l1 HO2 HO1;generalize World.setCell w6 ⟨M.g,h*7+2,none⟩ _=w9 at *;obtain⟨⟨r0,r1,r2,r3,r4,r5,r6,r7,r8,r9,r10⟩,_⟩:=bq_ HRc7.o;have hlE:=HRc7.o.lt;have hrec:=hi_ (eI_ (base:=w.heap.size) (w:=w9) (r:=aM_ h nm old true) (cs:=#[.int .i64 3,.int .i64 h,.int .i64 (-1),.int .i64 (-1),.int .i64 (-1),.int .i64 0,.string ⟨nm.toArray⟩,.string ⟨old.toArray⟩,.bool true,.int .i64 0,.int .i64 0]) rfl HF7.o.size);generalize (if cap=i+1 then some (⟨ga,0,none⟩:Addr)else some ⟨ga,(i+1)*2,none⟩)=adx at *;go_wp2_with fail
    rw[HOld.o]at HRs;refine bodyPost_ret (v:=.tuple #[.slice (some ⟨w9.heap.size,0,none⟩) 1 1,.int .i64 0]) (by simp[results,Tryz.results68,go_sem]) rfl ⟨_,M7,by rw[HRs.o];rfl,HF7.o.alloc _,HM7.o.below ((br_).alloc (nl_) _),by rw[HRs.o];exact Hm7.o,HL7.o,by rw[HRs.o];exact hrec.out⟩)
 have HRs:=hi_ (HSC.o.1 hk);have e2:((kd:Int) != 2)=true:=bne_iff_ne.2 (by omega);clear hk;go_wp2_with fail
 refine bodyPost_ret (v:=.tuple #[.slice none 0 0,.int .i64 10]) (by simp[results,Tryz.results68,go_sem]) rfl ⟨.slice none 0 0,M,by rw[HRs.o];rfl,H.Frame.refl _ _,HM.o,by rw[HRs.o],aO_.refl _ _,by rw[HRs.o];exact aI_.nil _ _⟩
end R
end
end Go.Proofs.YtinphfpdfodkkaaGreatDoor
