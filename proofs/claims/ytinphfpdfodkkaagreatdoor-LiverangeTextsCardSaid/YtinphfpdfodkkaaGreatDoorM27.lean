/- Texts of the proof. -/
import Derived.Test.YtinphfpdfodkkaaGreatDoorM26
import Derived.Test.YtinphfpdfodkkaaGreatDoorM24
set_option linter.unusedVariables false
set_option linter.unusedSimpArgs false
set_option maxHeartbeats 8000000
set_option maxRecDepth 100000
namespace Go.Proofs.YtinphfpdfodkkaaGreatDoor
section
open Go.RowKit Go.Sort
namespace R
open H G A
theorem mdrop_cases(m:Model)(h:Nat)(nm:List UInt8) :
  ((nd m h).kind≠2->dropAttr m h nm=([],10,m))/\((nd m h).kind=2->attrAt m h nm=none->dropAttr m h nm=([],0,m)) ∧
  (∀i,(nd m h).kind=2->attrAt m h nm=some i->dropAttr m h nm=([attrRec h nm (((nd m h).attrs[i]?.map (·.2)).getD []) true],0,upd m h fun x=>{ x with attrs:=x.attrs.eraseIdx i })):=by
 refine⟨fun h1=>?_,fun h1 h3=>?_,fun i h1 h3=>?_⟩
 ·unfold dropAttr;rw[if_pos h1]
 ·unfold dropAttr;rw[if_neg (by simp[h1]),h3]
 ·unfold dropAttr;rw[if_neg (by simp[h1]),h3]
theorem one_acells:∀(l:List BB),∀u∈l.flatMap acells,u.oneCell'=true:=by
 intro l u hu;obtain⟨a,_,ha⟩:=List.mem_flatMap.1 hu;unfold acells at ha;simp at ha
 rcases ha with e|e<;>rw[e]<;>rfl
theorem mDropAttr(M:MMem)(h:Nat)(nm:List UInt8)(w:World)(hM:ModelMem w M)(hh:h<M.nodes.length)(hl:(nd M.m h).attrs.length<=100000) :
  Calls Tryz.prog 68 #[.pointer (some ⟨M.mb,0,none⟩),.int .i64 h,.string ⟨nm.toArray⟩] w fun e w'=>∃v M',e=.returned (.tuple #[v,.int .i64 ((dropAttr M.m h nm).2.1:Nat)])/\H.Frame M.foot w w'/\ModelMem w' M'/\M'.m=(dropAttr M.m h nm).2.2/\MLike w M M'/\MRecsAt w.heap.size w' v (dropAttr M.m h nm).1:=by
 obtain⟨c0,l0,l1⟩:=hM.top;have k0:=(hM.cell hh).1;have k2:=(hM.cell hh).2.2.1;have n1:(h:Int)<(M.nodes.length:Int):=by omega
 have hfew:=hM.few;have HM:=hi_ hM;have Q3:=hi_ (mFind M h nm w hM hh (by omega));have hrow:=hM.attrsRow hh;obtain⟨ao,cap,hav⟩:=RecRow.slice hrow;rw[hav]at k2 hrow;have HAv:=hi_ hav;have HRow:=hi_ hrow;have HSC:=hi_ (mdrop_cases M.m h nm);obtain⟨R,hR⟩:∃R,R=dropAttr M.m h nm:=⟨_,rfl⟩;rw[<-hR]at HSC ⊢;generalize hkd:(nd M.m h).kind=kd at *;clear hM hR hkd hrow hav
 go_enter Tryz.func68,Tryz.ntmps68
 by_cases hk:kd=2
 ·subst hk
  go_wp2_with fail
  refine Q3.out.mono ?_;rintro e w2 ⟨rfl,rfl⟩
  cases hat:attrAt M.m h nm with
  |none=>
   have HRs:=hi_ (HSC.out.2.1 trivial hat);clear hat;rw[show idxI none=(-1:Int)from rfl];go_wp2_with fail
   refine bodyPost_ret (v:=.tuple #[.slice none 0 0,.int .i64 0]) (by simp[results,Tryz.results68,go_sem]) rfl ⟨.slice none 0 0,M,by rw[HRs.out];rfl,H.Frame.refl _ _,HM.out,by rw[HRs.out],MLike.refl _ _,by rw[HRs.out];exact MRecsAt.nil _ _⟩
  |some i=>
   have HRs:=hi_ (HSC.out.2.2 i trivial hat);rw[show idxI (some i)=(i:Int)from rfl];obtain⟨hil,old,hold⟩:∃hil:i<(nd M.m h).attrs.length,∃old,((nd M.m h).attrs[i]'hil).2=old:=by
    unfold attrAt at hat;rw[List.findIdx?_eq_some_iff_getElem]at hat;obtain⟨h1,h2,_⟩:=hat;exact⟨h1,_,rfl⟩
   have HOld:Hid ((((nd M.m h).attrs[i]?.map (·.2)).getD [])=old):=hi_ (by rw[List.getElem?_eq_getElem hil];exact hold);obtain⟨ga,cap',hv',hga1,hga2,hgc⟩:=own_some HRow.out (by omega);injection hv' with e1 _ e3
   subst e1 e3;have hc1:=(RecRow.cell acells_len HRow.out hil (k:=1) (by omega)).1;have hc1':w.cell? ⟨ga,i*2+1,none⟩=some (.string ⟨old.toArray⟩):=by
    have h1:w.cell? ⟨ga,i*2+1,none⟩=some (.string ⟨((nd M.m h).attrs[i]).2.toArray⟩):=hc1;rw[hold]at h1;exact h1
   have hii:(i:Int)<((nd M.m h).attrs.length:Int):=by omega
   have HHn:Hid ((M.at_ h).av.ownBlock=some ga):=hi_ (by rw[HAv.out];rfl);have p0:(0:Int)<=(i:Int):=by omega
   have p4:(0:Int)<=(i:Int)+1:=by omega
   have p1:(i:Int)<=(cap:Int):=by omega
   have p2:(i:Int)+1<=((nd M.m h).attrs.length:Int):=by omega
   have p3:((nd M.m h).attrs.length:Int)<=(cap:Int):=by omega
   have wq:IntKind.i64.wrap ((i:Int)+1)=(i:Int)+1:=IntWalk.i64_in _ (by omega);have wq2:wrap64 ((i:Int)+1)=(i:Int)+1:=by unfold wrap64;omega
   generalize hal:(nd M.m h).attrs=al at *;have HAl:=hi_ hal;have HIl:=hi_ hil;have HGc:=hi_ hgc;clear hat hc1 hold hal hil hgc;go_upto_region 8 with fail
   have HRec:=hi_ (Blk.new w #[.int .i64 3,.int .i64 (h:Nat),.int .i64 (-1),.int .i64 (-1),.int .i64 (-1),.int .i64 0,.string ⟨nm.toArray⟩,.string ⟨old.toArray⟩,.bool true,.int .i64 0,.int .i64 0] 71);have hbE:Below w.heap.size w (w.alloc (.cells #[.int .i64 3,.int .i64 (h:Nat),.int .i64 (-1),.int .i64 (-1),.int .i64 (-1),.int .i64 0,.string ⟨nm.toArray⟩,.string ⟨old.toArray⟩,.bool true,.int .i64 0,.int .i64 0] 71)):=(Below.refl _ w).alloc (Nat.le_refl _) _;have HBE:=hi_ hbE;have HME:=hi_ (HM.out.below HBE.out);have HRowE:=hi_ (own_below HRow.out hbE);clear hbE k2 c0 l0 l1 k0 hc1';generalize hEE:w.heap.size=E at *
   generalize w.alloc (.cells #[.int .i64 3,.int .i64 (h:Nat),.int .i64 (-1),.int .i64 (-1),.int .i64 (-1),.int .i64 0,.string ⟨nm.toArray⟩,.string ⟨old.toArray⟩,.bool true,.int .i64 0,.int .i64 0] 71)=wE at *;obtain⟨c0,l0,l1⟩:=HME.out.top;obtain⟨i0,hi0,hz0,hz1,hz2⟩:=info_parts infoMAttr;have HCell:Hid (∀j u,(al.flatMap acells)[j]?=some u->wE.cell? ⟨ga,j,none⟩=some u):=hi_ (fun j u hu=>by
    have hj:j<(al.flatMap acells).length:=by
     rcases Nat.lt_or_ge j (al.flatMap acells).length with h2|h2
     ·exact h2
     ·rw[List.getElem?_eq_none h2]at hu;cases hu
    rw[((ownsRow_open HRowE.out).2.2.2 j hj).1,hu])
   have hga3:=(ownsRow_open HRowE.out).1;have HGa:=hi_ hga3;have HOm:=hi_ (World.ownsRow_made (e:=143) (base:=wE.heap.size) (size:=2) wE #[] 0 (Nat.le_refl _) (Nat.zero_le _) rfl);have HN1:Hid (((al.take i).flatMap acells).length=i*2):=hi_ (by rw[flat_len acells_len,List.length_take];have:=HIl.out;omega);have HNl:Hid (((al.drop (i+1)).flatMap acells).length=(al.length-(i+1))*2):=hi_ (by rw[flat_len acells_len,List.length_drop]);have HN2:Hid (∀W',Below wE.heap.size wE W'->∀j u,((al.take i).flatMap acells)[j]?=some u->W'.cell? ((⟨ga,0,none⟩:Addr).add j)=some u):=hi_ (fun W' hb j u hu=>by
    rw[add_at,Nat.zero_add];rw[<-flat_take acells_len,List.getElem?_take]at hu
    split at hu
    ·exact(hb.cell (p:=⟨ga,j,none⟩) HGa.out).trans (HCell.out j u hu)
    ·cases hu)
   have HN4:Hid (∀W',Below wE.heap.size wE W'->∀j u,((al.drop (i+1)).flatMap acells)[j]?=some u->W'.cell? ((if cap=i+1 then(⟨ga,0,none⟩:Addr) else⟨ga,(i+1)*2,none⟩).add j)=some u):=hi_ (fun W' hb j u hu=>by
    have hlt:j<((al.drop (i+1)).flatMap acells).length:=by
     rcases Nat.lt_or_ge j ((al.drop (i+1)).flatMap acells).length with h2|h2
     ·exact h2
     ·rw[List.getElem?_eq_none h2]at hu;cases hu
    rw[HNl.out]at hlt;have:=HGc.out;rw[if_neg (by omega),add_at];rw[<-flat_drop acells_len,List.getElem?_drop]at hu;exact(hb.cell (p:=⟨ga,(i+1)*2+j,none⟩) HGa.out).trans (HCell.out _ u hu))
   have hD0:=hi_ (((Below.refl wE.heap.size wE).alloc (Nat.le_refl _) (.cells #[] 143)).drew);have HEE:=hi_ hEE;clear hga1 hga2 hga3 hEE
   go_region_law (first
    | (refine step_append_own (by rfl) _ _ 103 (by rfl) wE.heap.size 143 i0 _ 2 32 Tryz.underlying103 hi0 hz0 hz1 hz2 rfl (by decide) (.slice (some ⟨wE.heap.size, 0, none⟩) 0 0) 0 [] (by rfl) HOm.out.drew ⟨ga, 0, none⟩ i cap ((al.take i).flatMap acells) (by rfl) HN1.out (HN2.out _ hD0.out) (one_acells _) (by unfold maxLen; omega) (by omega) hD0.out.size ?_
       intro v1 w5 hown1 hgrow1 hnil1;rw[Nat.zero_add]at hown1;obtain⟨ao1,cap1,rfl⟩:=own_slice hown1;have HO1:=hi_ hown1;have HD5:=hi_ (hD0.out.grown hgrow1 hD0.out.size (fun k hk=>by simp[Value.ownBlock]at hk;omega));obtain⟨c05,l05,l15⟩:=(HME.out.below HD5.out).top;clear hown1 hgrow1 hnil1)
    | (refine step_append_own (by rfl) _ _ 103 (by rfl) wE.heap.size 143 i0 _ 2 32 Tryz.underlying103 hi0 hz0 hz1 hz2 rfl (by decide) (.slice ao1 i cap1) i ([] ++ (al.take i).flatMap acells) (by rfl) HO1.out (if cap = i + 1 then (⟨ga, 0, none⟩ : Addr) else ⟨ga, (i + 1) * 2, none⟩) (al.length - (i + 1)) (cap - (i + 1)) ((al.drop (i + 1)).flatMap acells) (by show Value.slice (if cap = i + 1 then some (⟨ga, 0, none⟩ : Addr) else some ⟨ga, (i + 1) * 2, none⟩) (al.length - (i + 1)) (cap - (i + 1)) = _; split <;> rfl) HNl.out (HN4.out _ HD5.out) (one_acells _) (by unfold maxLen; omega) (by omega) HD5.out.size ?_
       intro v2 w6 hown2 hgrow2 hnil2;obtain⟨ao2,cap2,rfl⟩:=own_slice hown2;have HO2:=hi_ hown2;have HD6:=hi_ (HD5.out.grown hgrow2 HD5.out.size (fun k hk=>(HO1.out.lt k hk).1));have HM6:=hi_ (HME.out.below HD6.out);obtain⟨c06,l06,l16⟩:=HM6.out.top;have g2:=(RecRow.cell ncells_len HM6.out.row hh (k:=2) (by omega)).2;have j2:=(HM6.out.cell hh).2.2.1;rw[HAv.out]at j2;clear hown2 hgrow2 hnil2))
   all_goals (
    have hnn:i+(al.length-(i+1))=(al.eraseIdx i).length:=by rw[List.length_eraseIdx_of_lt HIl.out];have:=HIl.out;omega
    have hbe:=HBE.out;rw[<-HEE.out]at hbe;have HR6:=hi_ (show RecRow acells M.B 143 2 w6 (.slice ao2 (i+(al.length-(i+1))) cap2) (al.eraseIdx i)from by
     have h5:=own_mono HO2.out (show M.B<=wE.heap.size by have:=HME.out.bb;omega);rw[List.nil_append,<-List.flatMap_append,<-List.eraseIdx_eq_take_drop_succ]at h5;unfold RecRow;rw[<-hnn];exact h5)
    have HM7:=hi_ ((HM6.out.rest hh (H.Frame.refl _ w6)).put hh HR6.out (fun j hj hne g hg e=>by
     have h1:=(World.ownsRow.lt HO2.out g hg).1;have h2:=(World.ownsRow.lt (HME.out.attrs _ (MMem.at_mem hj).2) g e).2
     omega))
    have HF7:=hi_ (Frame.set (S:=M.foot) ((H.Frame.of (S:=M.foot) hbe).below_ HD6.out) (Or.inl (Or.inr (Or.inl rfl))) (h*7+2) (.slice ao2 (i+(al.length-(i+1))) cap2));have HRc7:=hi_ ((HRec.out.below HD6.out).far (show E≠M.g from fun e=>own_not HME.out.row HRec.out (by decide) (by rw[e];rfl)) (h*7+2) (.slice ao2 (i+(al.length-(i+1))) cap2));have HL7:Hid (MLike w M (M.modN h fun x=>{ x with av:=.slice ao2 (i+(al.length-(i+1))) cap2,n:={ x.n with attrs:=al.eraseIdx i } })):=hi_ ⟨rfl,rfl,fun k hk=>by
     rcases foot_modN hh hk with h1|h1|h1
     ·exact Or.inl h1
     ·exact Or.inl (Or.inr (Or.inr ⟨_,(MMem.at_mem hh).2,Or.inl h1⟩))
     ·right
      have h2:=(World.ownsRow.lt HO2.out k h1).1;have h3:=hbe.size
      omega⟩
    have Hm7:Hid ((M.modN h fun x=>{ x with av:=.slice ao2 (i+(al.length-(i+1))) cap2,n:={ x.n with attrs:=al.eraseIdx i } }).m=upd M.m h fun x=>{ x with attrs:=x.attrs.eraseIdx i }):=hi_ (by
     rw[m_modN M h _ (fun x=>{ x with attrs:=al.eraseIdx i }) (fun x=>rfl)];refine upd_at (by rw[M.m_len];exact hh) ?_;rw[HAl.out])
    generalize (M.modN h fun x=>{ x with av:=.slice ao2 (i+(al.length-(i+1))) cap2,n:={ x.n with attrs:=al.eraseIdx i } })=M7 at *;clear hbe hnn HR6 c06 l06 l16 g2 j2 c05 l05 l15 c0 l0 l1 HO2 HO1;generalize World.setCell w6 ⟨M.g,h*7+2,none⟩ _=w9 at *;obtain⟨⟨r0,r1,r2,r3,r4,r5,r6,r7,r8,r9,r10⟩,_⟩:=cells11 HRc7.out;have hlE:=HRc7.out.lt;have hrec:=hi_ (mrecs_one (base:=w.heap.size) (w:=w9) (r:=attrRec h nm old true) (cs:=#[.int .i64 3,.int .i64 (h:Nat),.int .i64 (-1),.int .i64 (-1),.int .i64 (-1),.int .i64 0,.string ⟨nm.toArray⟩,.string ⟨old.toArray⟩,.bool true,.int .i64 0,.int .i64 0]) rfl HF7.out.size);generalize (if cap=i+1 then some (⟨ga,0,none⟩:Addr)else some ⟨ga,(i+1)*2,none⟩)=adx at *;go_wp2_with fail
    rw[HOld.out]at HRs;refine bodyPost_ret (v:=.tuple #[.slice (some ⟨w9.heap.size,0,none⟩) 1 1,.int .i64 0]) (by simp[results,Tryz.results68,go_sem]) rfl ⟨_,M7,by rw[HRs.out];rfl,HF7.out.alloc _,HM7.out.below ((Below.refl _ _).alloc (Nat.le_refl _) _),by rw[HRs.out];exact Hm7.out,HL7.out,by rw[HRs.out];exact hrec.out⟩)
 ·have HRs:=hi_ (HSC.out.1 hk)
  have e2:((kd:Int) != 2)=true:=bne_iff_ne.2 (by omega);clear hk;go_wp2_with fail
  refine bodyPost_ret (v:=.tuple #[.slice none 0 0,.int .i64 10]) (by simp[results,Tryz.results68,go_sem]) rfl ⟨.slice none 0 0,M,by rw[HRs.out];rfl,H.Frame.refl _ _,HM.out,by rw[HRs.out],MLike.refl _ _,by rw[HRs.out];exact MRecsAt.nil _ _⟩
theorem at_app(M:MMem)(x:MNode)(g cap j:Nat):(({ M with g:=g,cap:=cap,nodes:=M.nodes++[x] }:MMem).at_ j)=if j=M.nodes.length then x else M.at_ j:=by
 unfold MMem.at_;show(M.nodes++[x]).getD j blankM=_;rw[List.getD_eq_getElem?_getD,List.getD_eq_getElem?_getD]
 rcases Nat.lt_trichotomy j M.nodes.length with h|h|h
 ·rw[if_neg (by omega),List.getElem?_append_left h]
 ·rw[if_pos h,h,List.getElem?_append_right (Nat.le_refl _),Nat.sub_self];rfl
 ·rw[if_neg (by omega),List.getElem?_eq_none (by simp;omega),List.getElem?_eq_none (by omega)]
theorem ModelMem.push{w w':World}{M:MMem}{x:MNode}{g cap:Nat}(h:ModelMem w M)(f:H.Frame (fun k=>k=M.g) w w')(hlen:M.nodes.length<1000000)
  (hr:w'.ownsRow M.B 105 7 (.slice (some ⟨g,0,none⟩) (M.nodes.length+1) cap) (M.nodes.length+1) (M.nodes.flatMap ncells++ncells x))
  (hk:OwnN M.B w' x.kv x.n.kids) (ha:RecRow acells M.B 143 2 w' x.av x.n.attrs)
  (hk2:∀j,j<M.nodes.length->∀g,x.kv.ownBlock=some g->(M.at_ j).kv.ownBlock≠some g) (ha2:∀j,j<M.nodes.length->∀g,x.av.ownBlock=some g->(M.at_ j).av.ownBlock≠some g) :
  ModelMem (w'.setCell ⟨M.mb,0,none⟩ (.slice (some ⟨g,0,none⟩) (M.nodes.length+1) cap)) { M with g:=g,cap:=cap,nodes:=M.nodes++[x] }:=by
 have hb:=h.blk.frame f (fun e=>own_not h.row h.blk (by decide) (by rw[e];rfl));have hfar:∀{B:Nat} {e:TypeId} {size n:Nat} {v:Value} {xs:List Value},w'.ownsRow B e size v n xs->e≠102->World.ownsRow (w'.setCell ⟨M.mb,0,none⟩ (.slice (some ⟨g,0,none⟩) (M.nodes.length+1) cap)) B e size v n xs:=fun h1 h2=>own_far h1 (own_not h1 hb h2) _ _;have hold:∀{B:Nat} {e:TypeId} {size n:Nat} {v:Value} {xs:List Value},w.ownsRow B e size v n xs->e≠105->w'.ownsRow B e size v n xs:=fun h1 h2=>own_frame h1 f (fun k hk e=>own_ne h1 h.row h2 hk (by rw[e];rfl));refine⟨?_,?_,by simp;omega,h.bb,fun y hy=>?_,fun y hy=>?_,fun i j hi hj hne k hk1=>?_,fun i j hi hj hne k hk1=>?_⟩
 ·have h9:=hb.set 0 (.slice (some ⟨g,0,none⟩) (M.nodes.length+1) cap)
  simp only[List.setIfInBounds_toArray,List.set_cons_zero]at h9;simpa using h9
 ·have h9:=hfar hr (by decide)
  unfold RecRow;simpa using h9
 ·rcases List.mem_append.1 hy with hy|hy
  ·exact hfar (hold (h.kids y hy) (by decide)) (by decide)
  ·rw[List.mem_singleton.1 hy];exact hfar hk (by decide)
 ·rcases List.mem_append.1 hy with hy|hy
  ·exact hfar (hold (h.attrs y hy) (by decide)) (by decide)
  ·rw[List.mem_singleton.1 hy];exact hfar ha (by decide)
 ·have hi:i<(M.nodes++[x]).length:=hi
  have hj:j<(M.nodes++[x]).length:=hj;simp at hi hj;rw[at_app]at hk1 ⊢
  by_cases ei:i=M.nodes.length
  ·rw[if_pos ei]at hk1
   rw[if_neg (by omega)];exact hk2 j (by omega) k hk1
  ·rw[if_neg ei]at hk1
   by_cases ej:j=M.nodes.length
   ·rw[if_pos ej];exact fun h5=>hk2 i (by omega) k h5 hk1
   ·rw[if_neg ej];exact h.kapart i j (by omega) (by omega) hne k hk1
 ·have hi:i<(M.nodes++[x]).length:=hi
  have hj:j<(M.nodes++[x]).length:=hj;simp at hi hj;rw[at_app]at hk1 ⊢
  by_cases ei:i=M.nodes.length
  ·rw[if_pos ei]at hk1
   rw[if_neg (by omega)];exact ha2 j (by omega) k hk1
  ·rw[if_neg ei]at hk1
   by_cases ej:j=M.nodes.length
   ·rw[if_pos ej];exact fun h5=>ha2 i (by omega) k h5 hk1
   ·rw[if_neg ej];exact h.aapart i j (by omega) (by omega) hne k hk1
theorem mPoints(l:List UInt8)(w:World)(hs:l.length<=1000000)(hv:U.rep l=l) :
  Calls Tryz.prog 57 #[.string ⟨l.toArray⟩] w fun e w'=>∃v,e=.returned v/\w'.ownsRow w.heap.size 9 1 v (U.pts l).length (T.strs (U.pts l))/\Below w.heap.size w w':=by
 have h:=T.refPoints ⟨l.toArray⟩ w (by rw[H.bytes_size];exact hs);have hd:(⟨l.toArray⟩:ByteArray).data.toList=l:=by simp
 have hr:U.raw l=U.pts l:=by
  have h1:=U.raw_of_rep l
  rwa [hv]at h1
 rw[hd,hr]at h;exact h
theorem pts_row{w:World}{base:Nat}{v:Value}{l:List (List UInt8)}(h:w.ownsRow base 9 1 v l.length (T.strs l)):∃ao cap,v=.slice ao l.length cap/\T.StrRow w ao l:=by
 rcases h.2 with⟨h1,h2⟩|⟨g,cap,cur,h1,hb,hg,hn,hm,hc,ht⟩
 ·exact⟨none,0,by rw[h1,h2],fun hl=>by omega⟩
 ·refine⟨_,cap,h1,fun hl=>⟨g,rfl,lt_of_block hg,fun j hj=>?_⟩⟩
  have h3:=h;rw[h1]at h3;have h4:=((ownsRow_open h3).2.2.2 j (by rw[T.strs_length];omega)).1;rw[h4];unfold T.strs;rw[List.getElem?_map,List.getElem?_eq_getElem hj,List.getD_eq_getElem?_getD,List.getElem?_eq_getElem hj];rfl
theorem mSize(M:MMem)(i:Nat)(w:World)(h:ModelMem w M)(hi:i<M.nodes.length)(hd:(nd M.m i).data.length<=1000000)(hv:U.rep (nd M.m i).data=(nd M.m i).data) :
  Calls Tryz.prog 37 #[.pointer (some ⟨M.mb,0,none⟩),.int .i64 i] w fun e w'=>e=.returned (.int .i64 (G.sizeOf M.m i:Nat))/\Below w.heap.size w w':=by
 obtain⟨c0,l0,l1⟩:=h.top;obtain⟨k0,_,_,k3,_,k5,_⟩:=h.cell hi;obtain⟨ao,cap,hkv,_⟩:=OwnN.form (h.kidsRow hi);rw[hkv]at k5;have n1:(i:Int)<(M.nodes.length:Int):=by omega
 have n0:(0:Int)<=(i:Int):=by omega
 have hfew:=h.few;have HS:Hid (G.sizeOf M.m i=if 2<(nd M.m i).kind then(U.pts (nd M.m i).data).length else(nd M.m i).kids.length):=hi_ rfl;have Q:=hi_ (mPoints (nd M.m i).data w hd hv);generalize G.sizeOf M.m i=sz at *;generalize (nd M.m i).kind=kd at *;generalize (nd M.m i).data=dt at *;generalize (nd M.m i).kids.length=kl at *;clear h hkv hd hv
 by_cases hk:2<kd
 ·have hk1:(2:Int)<(kd:Int):=by omega
  have HF:Hid (sz=(U.pts dt).length):=hi_ (by rw[HS.out,if_pos hk]);clear hk HS
  go_enter Tryz.func37,Tryz.ntmps37
  go_wp2_with fail
  refine Q.out.mono ?_;rintro e w1 ⟨v,rfl,hown,hb⟩;obtain⟨ao2,cap2,hv2,_⟩:=pts_row hown;subst hv2;have HB:=hi_ hb;clear hown hb Q;go_wp2_with fail
  go_ret
  exact⟨ret_i64 (by rw[HF.out]),HB.out⟩
 ·have hk1:¬(2:Int)<(kd:Int):=by omega
  have HF:Hid (sz=kl):=hi_ (by rw[HS.out,if_neg hk]);clear hk HS Q
  go_enter Tryz.func37,Tryz.ntmps37
  go_wp2_with fail
  go_ret
  exact⟨ret_i64 (by rw[HF.out]),Below.refl _ _⟩
theorem infoMNode:(Tryz.prog.info? 105).map (fun i=>(i.zero,i.size,i.bytes))=some (some (.agg #[.int .i64 0,.string ⟨#[]⟩,.slice none 0 0,.string ⟨#[]⟩,.int .i64 0,.slice none 0 0,.bool false]),7,104):=by kernel_rfl
theorem cells7{w:World}{g:Nat}{t:TypeId}{a0 a1 a2 a3 a4 a5 a6:Value}(h:Blk g #[a0,a1,a2,a3,a4,a5,a6] t w) :
  (w.cell? ⟨g,0,none⟩=some a0/\w.cell? ⟨g,1,none⟩=some a1/\w.cell? ⟨g,2,none⟩=some a2/\w.cell? ⟨g,3,none⟩=some a3/\w.cell? ⟨g,4,none⟩=some a4/\w.cell? ⟨g,5,none⟩=some a5/\w.cell? ⟨g,6,none⟩=some a6) ∧
  (w.frozen? ⟨g,1,none⟩=false/\w.frozen? ⟨g,2,none⟩=false/\w.frozen? ⟨g,3,none⟩=false):=by
 have hc:=(cells_of h).1;have hf:=(cells_of h).2;exact⟨⟨hc 0,hc 1,hc 2,hc 3,hc 4,hc 5,hc 6⟩,⟨hf 1 (by simp),hf 2 (by simp),hf 3 (by simp)⟩⟩
theorem Blk.n1{w:World}{A:Nat}{a b c d e f g:Value}{t:TypeId}(k:Blk A #[a,b,c,d,e,f,g] t w)(b':Value):Blk A #[a,b',c,d,e,f,g] t (w.setCell ⟨A,1,none⟩ b'):=by
 have h9:=k.set 1 b';simp only[List.setIfInBounds_toArray,List.set_cons_zero,List.set_cons_succ]at h9;exact h9
theorem Blk.n2{w:World}{A:Nat}{a b c d e f g:Value}{t:TypeId}(k:Blk A #[a,b,c,d,e,f,g] t w)(b':Value):Blk A #[a,b,b',d,e,f,g] t (w.setCell ⟨A,2,none⟩ b'):=by
 have h9:=k.set 2 b';simp only[List.setIfInBounds_toArray,List.set_cons_zero,List.set_cons_succ]at h9;exact h9
theorem Blk.n3{w:World}{A:Nat}{a b c d e f g:Value}{t:TypeId}(k:Blk A #[a,b,c,d,e,f,g] t w)(b':Value):Blk A #[a,b,c,b',e,f,g] t (w.setCell ⟨A,3,none⟩ b'):=by
 have h9:=k.set 3 b';simp only[List.setIfInBounds_toArray,List.set_cons_zero,List.set_cons_succ]at h9;exact h9
def MMem.app(M:MMem)(x:MNode)(g cap:Nat):MMem:={ M with g:=g,cap:=cap,nodes:=M.nodes++[x] }
theorem app_m(M:MMem)(x:MNode)(g cap:Nat):(M.app x g cap).m=M.m++[x.n]:=by unfold MMem.app MMem.m;simp
theorem app_like{w:World}{M:MMem}{x:MNode}{g cap:Nat}(hg:M.g=g\/w.heap.size<=g)(hk:∀k,x.kv.ownBlock=some k->w.heap.size<=k)(ha:∀k,x.av.ownBlock=some k->w.heap.size<=k):MLike w M (M.app x g cap):=by
 refine⟨rfl,rfl,fun k hf=>?_⟩
 rcases hf with h1|h1|⟨y,hy,h1⟩
 ·exact Or.inl (Or.inl h1)
 ·have h1:k=g:=h1
  rcases hg with h2|h2
  ·exact Or.inl (Or.inr (Or.inl (by rw[h1,h2])))
  ·exact Or.inr (by rw[h1];exact h2)
 ·have hy:y∈M.nodes++[x]:=hy
  rcases List.mem_append.1 hy with hy|hy
  ·exact Or.inl (Or.inr (Or.inr ⟨y,hy,h1⟩))
  ·have:=List.mem_singleton.1 hy
   subst this;exact Or.inr (h1.elim (hk k) (ha k))
theorem push_end{w0 w w':World}{M:MMem}{x:MNode}{g cap:Nat}(h:ModelMem w M)(hb:Below w0.heap.size w0 w)(hB0:ModelMem w0 M)(f:H.Frame (fun k=>k=M.g) w w')(hlen:M.nodes.length<1000000)
  (hr:w'.ownsRow M.B 105 7 (.slice (some ⟨g,0,none⟩) (M.nodes.length+1) cap) (M.nodes.length+1) (M.nodes.flatMap ncells++ncells x)) (hg:M.g=g\/w0.heap.size<=g)
  (hkv:x.kv=.slice none 0 0) (hkk:x.n.kids=[]) (ha:RecRow acells w0.heap.size 143 2 w' x.av x.n.attrs) :
  ModelMem (w'.setCell ⟨M.mb,0,none⟩ (.slice (some ⟨g,0,none⟩) (M.nodes.length+1) cap)) (M.app x g cap)/\H.Frame M.foot w0 (w'.setCell ⟨M.mb,0,none⟩ (.slice (some ⟨g,0,none⟩) (M.nodes.length+1) cap))/\MLike w0 M (M.app x g cap):=by
 have hlt:=hB0.blk.lt;have hbb:=hB0.bb;refine⟨h.push f hlen hr (by rw[hkv,hkk];exact World.ownsRow_nil _ _ _ _) (own_mono ha (by omega)) (fun j hj k hk=>by rw[hkv]at hk;simp[Value.ownBlock]at hk) (fun j hj k hk e=>?_),?_,app_like hg (fun k hk=>by rw[hkv]at hk;simp[Value.ownBlock]at hk) (fun k hk=>(World.ownsRow.lt ha k hk).1)⟩
 ·have h1:=(World.ownsRow.lt ha k hk).1
  have h2:=(World.ownsRow.lt (hB0.attrs _ (MMem.at_mem hj).2) k e).2;omega
 ·exact Frame.set (S:=M.foot) ((H.Frame.of (S:=M.foot) hb).trans f (fun b hb=>Or.inl (Or.inr (Or.inl hb)))) (Or.inl (Or.inl rfl)) 0 _
theorem ok_from(l:List BB)(i:Nat)(hi:i<l.length)(seen:List (List UInt8)):attrsOk (l.drop i) seen=(headOk l[i].1 && !seen.contains l[i].1 && attrsOk (l.drop (i+1)) (seen++[l[i].1])):=by
 rw[List.drop_eq_getElem_cons hi,attrsOk]
theorem seen_next(l:List BB)(i:Nat)(hi:i<l.length):(l.take i).map (·.1)++[l[i].1]=(l.take (i+1)).map (·.1):=by
 rw[List.take_add_one,List.getElem?_eq_getElem hi,List.map_append];rfl
theorem seen_not(l:List BB)(i:Nat)(x:List UInt8)(h:∀j a,j<i->l[j]?=some a->(a.1==x)=false):((l.take i).map (·.1)).contains x=false:=by
 rw[<-Bool.not_eq_true];intro h1;rw[List.contains_iff_mem]at h1;obtain⟨a,ha,e⟩:=List.mem_map.1 h1;obtain⟨j,hj⟩:=List.mem_iff_getElem?.1 ha;rw[List.getElem?_take]at hj
 split at hj
 ·rename_i hji
  have h2:=h j a hji hj;rw[e]at h2;simp at h2
 ·cases hj
theorem seen_yes(l:List BB)(i k:Nat)(hk:k<i)(hkl:k<l.length)(x:List UInt8)(h:(l[k].1==x)=true):((l.take i).map (·.1)).contains x=true:=by
 rw[List.contains_iff_mem];refine List.mem_map.2 ⟨l[k],?_,by simpa using h⟩;refine List.mem_iff_getElem?.2 ⟨k,?_⟩;rw[List.getElem?_take,if_pos hk,List.getElem?_eq_getElem hkl]
def MMakeIs(w:World)(M:MMem)(e:Ending)(w':World)(r:Option Model):Prop:=
 ∃M',e=.returned (.int .i64 (match r with|none=>1|some _=>0))/\H.Frame M.foot w w'/\ModelMem w' M'/\M'.m=r.getD M.m/\MLike w M M'
theorem mMakeText(M:MMem)(kind:Nat)(name data:List UInt8)(w:World)(hM:ModelMem w M)(hk:kind≠2)(hk4:kind<=4)(hd:data.length<=100000)(hlen:M.nodes.length<100000)(av:Value) :
  Calls Tryz.prog 59 #[.pointer (some ⟨M.mb,0,none⟩),.int .i64 kind,.string ⟨name.toArray⟩,.string ⟨data.toArray⟩,av] w fun e w'=>MMakeIs w M e w' (make M.m kind name data []):=by
 have HM:=hi_ hM;obtain⟨x,hx⟩:∃x:MNode,x=⟨⟨kind,[],[],U.rep data,none,[],false⟩,.slice none 0 0,.slice none 0 0⟩:=⟨_,rfl⟩;have HX:=hi_ hx;have hR:make M.m kind name data []=some (M.m++[x.n]):=by unfold make;rw[if_neg hk,hx]
 rw[hR];have QR:=hi_ (fun W=>refRepairB data W (by omega));obtain⟨i0,hi0,hz0,hz1,hz2⟩:=info_parts infoMNode;have hb1:=(Below.refl w.heap.size w).alloc (Nat.le_refl _) (.cells #[.int .i64 (kind:Nat),.string ⟨#[]⟩,.slice none 0 0,.string ⟨#[]⟩,.int .i64 (-1),.slice none 0 0,.bool false] 105);have HB1:=hi_ hb1;have HX1:=hi_ (Blk.new w #[.int .i64 (kind:Nat),.string ⟨#[]⟩,.slice none 0 0,.string ⟨#[]⟩,.int .i64 (-1),.slice none 0 0,.bool false] 105);have hk2:¬(kind:Int)=2:=by omega
 have hk3:((kind:Int)==2)=false:=beq_eq_false_iff_ne.2 hk2;clear hM hb1 hR hk hx
 go_enter Tryz.func59,Tryz.ntmps59
 go_wp2_with fail
 generalize w.alloc (.cells #[.int .i64 (kind:Nat),.string ⟨#[]⟩,.slice none 0 0,.string ⟨#[]⟩,.int .i64 (-1),.slice none 0 0,.bool false] 105)=w1 at *;refine(QR.out w1).mono ?_;rintro e w2 ⟨rfl,hb2⟩;have HX2:=hi_ (HX1.out.below hb2);have HB2:=bt_ HB1 hb2;obtain⟨_,⟨_,_,f3⟩⟩:=cells7 HX2.out;have hlX:=HX2.out.lt;have hMl:=Nat.lt_of_lt_of_le HM.out.blk.lt HB2.out.size;have hne:¬w.heap.size=M.mb:=by have:=HM.out.blk.lt;omega
 clear hb2 QR HX1 HB1;have HX3:=hi_ (Blk.n3 HX2.out (.string ⟨(U.rep data).toArray⟩));have HB3:=hi_ (HB2.out.setCell (p:=⟨w.heap.size,3,none⟩) (Nat.le_refl _) (.string ⟨(U.rep data).toArray⟩));go_upto_region 18 with fail
 generalize World.setCell w2 ⟨w.heap.size,3,none⟩ (.string ⟨(U.rep data).toArray⟩)=w3 at *;have HM3:=hi_ (HM.out.below HB3.out);obtain⟨c0,l0,l1⟩:=HM3.out.top;obtain⟨⟨a0,a1,a2,a3,a4,a5,a6⟩,_⟩:=cells7 HX3.out;have hlX:=HX3.out.lt;have HA3:Hid (RecRow acells w.heap.size 143 2 w3 x.av x.n.attrs):=hi_ (by rw[HX.out];exact World.ownsRow_nil _ _ _ _);have HNc:Hid (ncells x=[.int .i64 (kind:Nat),.string ⟨#[]⟩,.slice none 0 0,.string ⟨(U.rep data).toArray⟩,.int .i64 (-1),.slice none 0 0,.bool false]):=hi_ (by rw[HX.out];rfl);have HE:=hi_ (fun w' g cap f hr hg=>push_end (w0:=w) (w:=w3) (w':=w') (M:=M) (x:=x) (g:=g) (cap:=cap) HM3.out HB3.out HM.out f (by omega) hr hg (by rw[HX.out]) (by rw[HX.out]));have hbb:=HM.out.bb;have hml:=HM.out.blk.lt;have hws:=HB3.out.size;have hfew:=HM.out.few
 have hgm:M.mb≠M.g:=fun e=>own_not HM3.out.row HM3.out.blk (by decide) (by rw[e];rfl);have hga:∀k,x.av.ownBlock=some k->k≠M.g:=fun k hk e=>by
  have h1:=(World.ownsRow.lt HA3.out k hk).1;have h2:=(ownsRow_open HM.out.row).1;omega
 have HGm:=hi_ hgm;have HGa:=hi_ hga;clear hgm hga hne
 go_region_law ((refine step_append_lies _ (by rfl) _ _ _ (by rfl) M.B 105 i0 _ 7 104 Tryz.underlying100 hi0 hz0 hz1 hz2 rfl (by omega) (.slice (some ⟨M.g,0,none⟩) M.nodes.length M.cap) M.nodes.length (M.nodes.flatMap ncells) (by rfl) ((World.ownsRow.alloc HM3.out.row _).drew) ⟨w3.heap.size,0,none⟩ 1 1 [.int .i64 (kind:Nat),.string ⟨#[]⟩,.slice none 0 0,.string ⟨(U.rep data).toArray⟩,.int .i64 (-1),.slice none 0 0,.bool false] (by rfl) (by rfl) (World.news_of_block (cs:=#[.int .i64 (kind:Nat),.string ⟨#[]⟩,.slice none 0 0,.string ⟨(U.rep data).toArray⟩,.int .i64 (-1),.slice none 0 0,.bool false]) (t:=105) (fr:=(0,0)) (heap_alloc_new w3 _)) (by simp[Value.oneCell']) (by omega) (by unfold maxLen;omega) (by omega) (by simp;omega) (w3.heap.size+1) (by simp) ?_;intro gg cap2 w5 hown5 hgrow hat5 hlt5;have hF5:H.Frame (fun k=>k=M.g) w3 w5:=H.Frame.grown (S:=fun k=>k=M.g) (Frame.drew (Frame.alloc (H.Frame.refl _ w3) _)) hgrow (fun k hk=>Or.inl (by have hk:some M.g=some k:=hk;injection hk with hk;exact hk.symm));have hb5:=HM3.out.blk.frame hF5 HGm.out;have d0:=(cells_of hb5).1 0;have m0:=hb5.lt;have g0:=(cells_of hb5).2 0 (by simp)))
 all_goals (
  have hA5:=own_frame HA3.out hF5 HGa.out;have hfin:=HE.out w5 gg cap2 hF5 (by rw[HNc.out];exact hown5) (hat5.imp (fun e=>by have e:some M.g=some gg:=e;injection e) (fun e=>by omega)) hA5;have HFin:=hi_ hfin;clear hfin hA5 hown5 hgrow hat5 hF5 hb5;go_wp2_with fail
  refine bodyPost_ret (v:=.int .i64 0) (by simp[results,Tryz.results59,go_sem]) rfl ⟨_,rfl,HFin.out.2.1,HFin.out.1,?_,HFin.out.2.2⟩;rw[app_m];rfl)
structure RestK(w:World)(M:MMem)(i:Nat):Prop where
 blk:Blk M.mb #[.slice (some ⟨M.g,0,none⟩) M.nodes.length M.cap] 102 w
 row:RecRow ncells M.B 105 7 w (.slice (some ⟨M.g,0,none⟩) M.nodes.length M.cap) M.nodes
 few:M.nodes.length<=1000000
 bb:M.B<=M.mb
 kids:∀j,j<M.nodes.length->j≠i->OwnN M.B w (M.at_ j).kv (M.at_ j).n.kids
 attrs:∀x,x∈M.nodes->RecRow acells M.B 143 2 w x.av x.n.attrs
 kapart:∀i j,i<M.nodes.length->j<M.nodes.length->i≠j->∀g,(M.at_ i).kv.ownBlock=some g->(M.at_ j).kv.ownBlock≠some g
 aapart:∀i j,i<M.nodes.length->j<M.nodes.length->i≠j->∀g,(M.at_ i).av.ownBlock=some g->(M.at_ j).av.ownBlock≠some g
theorem ModelMem.restK{w w':World}{M:MMem}{i:Nat}(h:ModelMem w M)(hi:i<M.nodes.length)(f:H.Frame (fun k=>(M.at_ i).kv.ownBlock=some k) w w'):RestK w' M i:=by
 have ha:=h.kids _ (MMem.at_mem hi).2;refine⟨h.blk.frame f (fun e=>own_not ha h.blk (by decide) e),own_frame h.row f (fun g hg e=>own_ne ha h.row (by decide) e hg),h.few,h.bb,fun j hj hne=>own_frame (h.kids _ (MMem.at_mem hj).2) f (fun g hg e=>h.kapart i j hi hj (fun e2=>hne e2.symm) g e hg),fun x hx=>own_frame (h.attrs x hx) f (fun g hg e=>own_ne ha (h.attrs x hx) (by decide) e hg),h.kapart,h.aapart⟩
theorem RestK.put{w:World}{M:MMem}{i:Nat}(h:RestK w M i)(hi:i<M.nodes.length){kv:Value}{kl:List Nat}(hr:OwnN M.B w kv kl)(hap:∀j,j<M.nodes.length->j≠i->∀g,kv.ownBlock=some g->(M.at_ j).kv.ownBlock≠some g) :
  ModelMem (w.setCell ⟨M.g,i*7+5,none⟩ kv) (M.modN i fun x=>{ x with kv:=kv,n:={ x.n with kids:=kl } }):=by
 have hlen:=modN_len M i (fun x=>{ x with kv:=kv,n:={ x.n with kids:=kl } });have hat:=at_modN (f:=fun x=>{ x with kv:=kv,n:={ x.n with kids:=kl } }) hi;have hav:∀j,((M.modN i fun x=>{ x with kv:=kv,n:={ x.n with kids:=kl } }).at_ j).av=(M.at_ j).av:=fun j=>by rw[hat];split<;>rfl
 have hg1:M.mb≠M.g:=fun e=>own_not h.row h.blk (by decide) (by rw[e];rfl);refine⟨?_,?_,by rw[hlen];exact h.few,h.bb,fun x hx=>?_,fun x hx=>?_,fun a b ha hb hne g hg=>?_,fun a b ha hb hne g hg=>?_⟩
 ·rw[hlen];exact h.blk.far hg1 _ _
 ·exact RecRow.store ncells_len h.row hi (by omega) kv _ rfl
 ·obtain⟨j,hj,rfl⟩:=modN_key x hx
  rw[hat]
  by_cases e:j=i
  ·rw[if_pos e]
   exact own_far hr (fun e=>own_ne hr h.row (by decide) e rfl) (i*7+5) kv
  ·rw[if_neg e]
   have h1:=h.kids j hj e;exact own_far h1 (fun e=>own_ne h1 h.row (by decide) e rfl) (i*7+5) kv
 ·obtain⟨j,hj,rfl⟩:=modN_key x hx
  have h1:=h.attrs _ (MMem.at_mem hj).2;have h2:=own_far h1 (fun e=>own_ne h1 h.row (by decide) e rfl) (i*7+5) kv;rw[hat]
  split<;>exact h2
 ·have ha':a<M.nodes.length:=by rw[<-hlen];exact ha
  have hb':b<M.nodes.length:=by rw[<-hlen];exact hb
  rw[hat]at hg ⊢
  by_cases ea:a=i
  ·rw[if_pos ea]at hg
   rw[if_neg (fun e=>hne (ea.trans e.symm))];exact hap b hb' (fun e=>hne (ea.trans e.symm)) g hg
  ·rw[if_neg ea]at hg
   by_cases eb:b=i
   ·rw[if_pos eb]
    exact fun h5=>hap a ha' ea g h5 hg
   ·rw[if_neg eb]
    exact h.kapart a b ha' hb' hne g hg
 ·rw[hav]at hg ⊢
  exact h.aapart a b (by rw[<-hlen];exact ha) (by rw[<-hlen];exact hb) hne g hg
def FewK(m:Model):Prop:=∀i,(nd m i).kids.length<=m.length
theorem FewK.of{m:Model}(W:WF m):FewK m:=fun i=>by
 have h1:(nd m i).kids.length<=(List.range m.length).length:=List.Nodup.length_le_of_subset (W.nodup i) (fun x hx=>List.mem_range.2 (W.kid i x hx).1)
 rwa [List.length_range]at h1
theorem FewK.addc{m:Model}(h:FewK m)(x:G.Node)(hx:x.kids=[])(par:Option Nat):FewK (addc m x par):=by
 have ha:∀y:G.Node,y.kids=[]->FewK (m++[y]):=fun y hy i=>by
  rw[nd_app_cases,List.length_append]
  split
  ·rw[hy];simp
  ·have:=h i;simp;omega
 cases par with
 |none=>unfold G.addc;exact ha _ hx
 |some p=>
  unfold G.addc;dsimp only;intro i;have h1:=ha { x with parent:=some p } hx;rw[upd_len]
  rcases Nat.lt_or_ge p (m++[{ x with parent:=some p }]).length with hp|hp
  ·rw[nd_upd hp]
   split
   ·rename_i e
    dsimp only;rw[List.length_append,List.length_append];rw[nd_app_cases]
    split
    ·rw[hx];simp
    ·have:=h i;simp;omega
   ·exact h1 i
  ·rw[upd_out hp];exact h1 i
end R
end
section
open Go.RowKit Go.Sort
namespace G
theorem FewK.copyN:∀(n:Nat) {m:Model} (h:R.FewK m) (a:Nat) (par:Option Nat) (deep:Bool),R.FewK (copyN n m a par deep)
 |0,m,h,a,par,deep=>h
 |n+1,m,h,a,par,deep=>by
  have h1:R.FewK (addc m (bare (nd m a)) par):=R.FewK.addc h _ rfl par;rw[G.copyN]
  cases deep with
  |false=>exact h1
  |true=>
   simp only[if_true];have hf:∀(l:List Nat) (m':Model),R.FewK m'->R.FewK (l.foldl (fun m' c=>G.copyN n m' c (some m.length) true) m'):=by
    intro l
    induction l with
    |nil=>exact fun m' h=>h
    |cons c t ih=>exact fun m' h'=>ih _ (FewK.copyN n h' c _ true)
   exact hf _ _ h1
theorem fold_keep(n:Nat)(K B:Nat)(hKB:B<=K):∀(l:List Nat) (m':Model),(∀c∈l,c<B)->K<m'.length->Low B m' →
  m'.length<=(l.foldl (fun m' c=>copyN n m' c (some K) true) m').length/\∀i,i<B->nd (l.foldl (fun m' c=>copyN n m' c (some K) true) m') i=nd m' i
 |[],m',_,_,_=>⟨Nat.le_refl _,fun i hi=>rfl⟩
 |c :: t,m',hc,hK,hL=>by
  obtain⟨a1,a2⟩:=copyN_keep n m' c (some K) true B (by omega) hL (hc c (by simp)) (fun q hq'=>by injection hq' with e;subst e;exact⟨hK,hKB⟩);obtain⟨b1,b2⟩:=fold_keep n K B hKB t (copyN n m' c (some K) true) (fun d hd=>hc d (by simp[hd])) (by omega) (fun i hi c hc=>by rw[a2 i hi]at hc;exact hL i hi c hc);rw[List.foldl_cons];exact⟨by omega,fun i hi=>(b2 i hi).trans (a2 i hi)⟩
theorem Low.of_same{B:Nat}{m m':Model}(hL:Low B m)(h:∀i,i<B->nd m' i=nd m i):Low B m':=fun i hi c hc=>by rw[h i hi]at hc;exact hL i hi c hc
theorem addc_keep{m:Model}{x:Node}{par:Option Nat}{B:Nat}(hB:B<=m.length)(hq:∀q,par=some q->q<m.length/\B<=q)(i:Nat)(hi:i<B):nd (addc m x par) i=nd m i:=
 nd_addc (by omega) (fun q hq'=>⟨(hq q hq').1,by have:=(hq q hq').2;omega⟩)
theorem fold_step(n:Nat){m m2:Model}{ks:List Nat}{K B i c N:Nat}(hKB:B<=K)(hc:ks[i]?=some c)(hks:∀c∈ks,c<B)(hK:K<m2.length)(hL:Low B m2)
  (hN:(ks.foldl (fun m' c=>copyN n m' c (some K) true) m2).length<=N) :
  (ks.take (i+1)).foldl (fun m' c=>copyN n m' c (some K) true) m2=copyN n ((ks.take i).foldl (fun m' c=>copyN n m' c (some K) true) m2) c (some K) true ∧
  (copyN n ((ks.take i).foldl (fun m' c=>copyN n m' c (some K) true) m2) c (some K) true).length<=N/\m2.length<=((ks.take i).foldl (fun m' c=>copyN n m' c (some K) true) m2).length:=by
 have h1:(ks.take (i+1)).foldl (fun m' c=>copyN n m' c (some K) true) m2=copyN n ((ks.take i).foldl (fun m' c=>copyN n m' c (some K) true) m2) c (some K) true:=by
  rw[List.take_add_one,hc,List.foldl_append];rfl
 obtain⟨a1,a2⟩:=fold_keep n K B hKB (ks.take i) m2 (fun d hd=>hks d (List.mem_of_mem_take hd)) hK hL;obtain⟨b1,b2⟩:=fold_keep n K B hKB (ks.take (i+1)) m2 (fun d hd=>hks d (List.mem_of_mem_take hd)) hK hL;obtain⟨c1,_⟩:=fold_keep n K B hKB (ks.drop (i+1)) ((ks.take (i+1)).foldl (fun m' c=>copyN n m' c (some K) true) m2) (fun d hd=>hks d (List.mem_of_mem_drop hd)) (by omega) (hL.of_same b2);rw[<-List.foldl_append,List.take_append_drop]at c1;refine⟨h1,?_,a1⟩;rw[<-h1];omega
end G
namespace R
open H G A
def MCopyOk(n:Nat):Prop:=∀(B:Nat) (M:MMem) (h:Nat) (par:Option Nat) (deep:Bool) (w:World),ModelMem w M->h<B->B<=M.nodes.length->Low B M.m->G.low M.m n h->(∀q,par=some q->q<M.nodes.length/\B<=q) →
 (copyN n M.m h par deep).length<=100000->(∀i,i<B->(nd M.m i).attrs.length<=100000)->FewK M.m →
 Calls Tryz.prog 156 #[.pointer (some ⟨M.mb,0,none⟩),.int .i64 (h:Nat),.int .i64 (parI par),.bool deep] w fun e w'=>∃M',e=.returned (.tuple #[])/\H.Frame M.foot w w'/\ModelMem w' M'/\M'.m=copyN n M.m h par deep/\MLike w M M'/\∀i,i<B->M'.at_ i=M.at_ i
theorem at_app_old{M:MMem}{x:MNode}{g cap:Nat}{j:Nat}(hj:j<M.nodes.length):(M.app x g cap).at_ j=M.at_ j:=by
 show({ M with g:=g,cap:=cap,nodes:=M.nodes++[x] }:MMem).at_ j=_;rw[at_app,if_neg (by omega)]
theorem app_len(M:MMem)(x:MNode)(g cap:Nat):(M.app x g cap).nodes.length=M.nodes.length+1:=by unfold MMem.app;simp
end R
end
section
open Go.RowKit Go.Sort
namespace R
open H G A
def ptV(p:Nat×Nat):List Value:=[.int .i64 (p.1:Nat),.int .i64 (p.2:Nat)]
theorem ptV_len(p:Nat×Nat):(ptV p).length=2:=rfl
abbrev OwnP(base:Nat)(w:World)(v:Value)(l:List (Nat×Nat)):Prop:=RecRow ptV base 30 2 w v l
theorem infoPt:(Tryz.prog.info? 30).map (fun i=>(i.zero,i.size,i.bytes))=some (some (.agg #[.int .i64 0,.int .i64 0]),2,16):=by kernel_rfl
theorem one_ptV:∀(l:List (Nat×Nat)),∀u∈l.flatMap ptV,u.oneCell'=true:=by
 intro l u hu;obtain⟨a,_,ha⟩:=List.mem_flatMap.1 hu;unfold ptV at ha;simp at ha
 rcases ha with e|e<;>rw[e]<;>rfl
theorem all_pos{m:Model}(W:WF m)(h:Nat):0<(all m h).length:=by
 rw[W.all_eq,List.range_succ_eq_map,List.flatMap_cons];simp
def Whole(m:Model):Prop:=∀i,(nd m i).data.length<=100000/\U.rep (nd m i).data=(nd m i).data
theorem kids_short{m:Model}(W:WF m)(i:Nat):(nd m i).kids.length<=m.length:=by
 have h1:(nd m i).kids.length<=(List.range m.length).length:=List.Nodup.length_le_of_subset (W.nodup i) (fun x hx=>List.mem_range.2 (W.kid i x hx).1)
 rwa [List.length_range]at h1
theorem size_short{m:Model}(W:WF m)(hD:Whole m)(hl:m.length<=100000)(i:Nat):G.sizeOf m i<=100000:=by
 unfold G.sizeOf
 split
 ·exact Nat.le_trans (U.pts_length _) (hD i).1
 ·exact Nat.le_trans (kids_short W i) hl
theorem all_short{m:Model}(W:WF m)(hD:Whole m)(hl:m.length<=10000){i:Nat}(hi:i<m.length):(all m i).length<=1000010000:=by
 have h1:=W.all_len (size_short W hD (by omega)) i hi;have h2:m.length*(100000+1)<=10000*(100000+1):=Nat.mul_le_mul_right _ hl;omega
theorem mAll(M:MMem)(w0:World)(h0:ModelMem w0 M)(W:WF M.m)(hD:Whole M.m)(hfw:M.m.length<=10000):∀(n i:Nat) (w:World),Below w0.heap.size w0 w->height M.m i<=n->i<M.nodes.length->Calls Tryz.prog 43 #[.pointer (some ⟨M.mb,0,none⟩),.int .i64 i] w fun e w'=>∃v,e=.returned v/\Below w.heap.size w w'/\OwnP w.heap.size w' v (all M.m i):=by
 intro n
 induction n with
 |zero=>
  intro i w hb hn hi;rw[W.height_eq i]at hn;omega
 |succ n ih=>
 intro i w hb0 hn hi;have h:=h0.below hb0;have HM:=hi_ h;have n1:(i:Int)<(M.nodes.length:Int):=by omega
 have n0:(0:Int)<=(i:Int):=by omega
 have HB0:=hi_ hb0;have IH:=hi_ (fun(c:Nat) (hc:c∈(nd M.m i).kids) (W1:World) (hb:Below w.heap.size w W1)=>ih c W1 (hb0.trans (hb.mono hb0.size)) (by have:=W.height_kid hc;omega) (by rw[<-M.m_len];exact(W.kid i c hc).1));have HE:=hi_ (W.all_to i);have hfew:=h.few;have hwl:=all_short W hD hfw (i:=i) (by rw[M.m_len];exact hi);have HWl:Hid (∀q,q<=G.sizeOf M.m i+1->(allTo M.m i q).length<=1000010000):=hi_ (fun q hq=>Nat.le_trans (W.allTo_len i q hq) hwl);have HSt:=hi_ (fun q=>allTo_succ M.m i q);have HIn:Hid (∀q,inside M.m (all M.m) i q=if 2<(nd M.m i).kind then[]else match (nd M.m i).kids[q]? with|some c=>all M.m c|none=>[]):=hi_ (fun q=>rfl);have QS:=hi_ (fun W1 (hb:Below w.heap.size w W1)=>mSize M i W1 (h.below hb) hi (by have:=(hD i).1;omega) (hD i).2)
 have HKc:=hi_ (fun W1 (hb:Below w.heap.size w W1)=>(h.below hb).cell hi);have HC:=hi_ (fun W1 (hb:Below w.heap.size w W1)=>OwnN.form ((h.below hb).kidsRow hi));obtain⟨ao,cap,hv,_⟩:=OwnN.form (h.kidsRow hi);have HV:=hi_ hv;have HTop:=hi_ (fun W1 (hb:Below w.heap.size w W1)=>(h.below hb).top);have hsz:=size_short W hD (by omega) i;have HAp:=hi_ (fun c=>all_pos W c);have HAs:=hi_ (fun c (hc:c∈(nd M.m i).kids)=>all_short W hD hfw (i:=c) (W.kid i c hc).1);obtain⟨wk,hwk⟩:∃wk,wk=all M.m i:=⟨_,rfl⟩;rw[<-hwk]at HE ⊢;have hkl:=kids_short W i;generalize hl:(nd M.m i).kids=l at *;generalize hkd:(nd M.m i).kind=kd at *;generalize hS:G.sizeOf M.m i=S at *;obtain⟨i0,hi0,hz0,hz1,hz2⟩:=info_parts infoPt;clear ih h hn hi hv hl hkd hS hwk hwl hb0 h0 hD W
 go_enter Tryz.func43,Tryz.ntmps43
 go_wp2_with fail
 have HBl:=hi_ (Below.refl w.heap.size w);have HOl:Hid (OwnP w.heap.size w (.slice none (allTo M.m i 0).length 0) (allTo M.m i 0)):=hi_ (World.ownsRow_nil _ _ _ _)
 go_loopw [5,6] (fun v5 v6 wr=>∃(q:Nat) (go:Option Addr) (gc:Nat),v5=.slice go (allTo M.m i q).length gc/\v6=.int .i64 (q:Nat)/\q<=S+1/\Hid (Below w.heap.size w wr)/\Hid (OwnP w.heap.size wr (.slice go (allTo M.m i q).length gc) (allTo M.m i q))) (fun _ v6 _=>S+1-(intOfV v6).toNat)
 case atStart=>exact⟨0,none,0,rfl,rfl,by omega,HBl,HOl⟩
 case round=>
  obtain⟨q,go,gc,rfl,rfl,hq0,HB,HO⟩:=hrel;have Q1:=hi_ (QS.out wr HB.out);clear HBl HOl
  by_cases hq:q=S+1
  ·have HF:Hid (wk=allTo M.m i q):=hi_ (by rw[HE.out,hq])
   generalize allTo M.m i q=pre at *;generalize hpl:pre.length=pl at *;clear hpl;have hnl:¬((q:Int)<=(S:Int)):=by omega
   clear hq;go_wp2_with fail
   refine Q1.out.mono ?_;rintro e w1 ⟨rfl,hb1⟩;have HB1:=bt_ HB hb1;have HO1:=hi_ (own_below HO.out hb1);clear hb1 Q1;go_wp2_with fail
   go_ret
   exact⟨_,rfl,HB1.out,by rw[HF.out];exact HO1.out⟩
  ·have hlt:(q:Int)<=(S:Int):=by omega
   have hq1:q+1<=S+1:=by omega
   have HWq:=hi_ (HWl.out (q+1) hq1);have HTk:=hi_ (HSt.out q);have HIq:=hi_ (HIn.out q);rw[HTk.out]at HWq;generalize hpre:allTo M.m i q=pre at *;generalize hpl:pre.length=pl at *;have HPl:=hi_ hpl;have wq:IntKind.i64.wrap ((q:Int)+1)=(q:Int)+1:=IntWalk.i64_in _ (by omega);have hplb:pl+1<=1000010000:=by
    have h9:=HWq.out;rw[List.length_append,List.length_append,hpl]at h9;simp at h9;omega
   clear hq hpre hpl;go_wp2_with fail
   refine Q1.out.mono ?_;rintro e w1 ⟨rfl,hb1⟩;have HB1:=bt_ HB hb1;have HO1:Hid (w1.ownsRow w.heap.size 30 2 (.slice go pl gc) pl (pre.flatMap ptV)):=hi_ (by
    have h1:=own_below HO.out hb1;unfold OwnP at h1;rw[HPl.out]at h1;exact h1)
   have hsz1:=HB1.out.size;clear hb1 Q1 HO HB;go_wp2_with (at_builtin;refine wpList_append_lies _ rfl _ _ 106 rfl w.heap.size 30 i0 _ 2 16 Tryz.underlying106 hi0 hz0 hz1 hz2 rfl (by decide) (.slice go pl gc) pl (pre.flatMap ptV) rfl (World.ownsRow.alloc HO1.out _) ⟨w1.heap.size,0,none⟩ 1 1 [.int .i64 (i:Nat),.int .i64 (q:Nat)] rfl rfl (World.news_of_block (cs:=#[.int .i64 (i:Nat),.int .i64 (q:Nat)]) (t:=30) (fr:=(0,0)) (heap_alloc_new w1 _)) (by simp[Value.oneCell']) (by omega) ?c4 ?c5 ?c6 (w1.heap.size+1) (by simp) ?_)
   case c4=>unfold maxLen;omega
   case c5=>omega
   case c6=>simp;omega
   intro gg cap5 w5 hown5 hgrow hat5 hlt5;have HB5:=hi_ ((HB1.out.alloc hsz1 _).grown hgrow (by simp;omega) (fun k hk=>(HO1.out.lt k hk).1));have HO5:Hid (OwnP w.heap.size w5 (.slice (some ⟨gg,0,none⟩) (pl+1) cap5) (pre++[(i,q)])):=hi_ (by
    unfold OwnP RecRow;rw[List.length_append,HPl.out,List.flatMap_append];exact hown5)
   clear hown5 hgrow hat5 HO1 HB1 hsz1;obtain⟨c0,l0,l1⟩:=HTop.out w5 HB5.out;obtain⟨k0,_,_,_,_,k5,_⟩:=HKc.out w5 HB5.out;rw[HV.out]at k5;have hsz5:=HB5.out.size
   by_cases hk:kd<3
   ·have hk1:(kd:Int)<3:=by omega
    cases hx:l[q]? with
    |none=>
     have hle:=List.getElem?_eq_none_iff.1 hx;have hlq:¬(q:Int)<(l.length:Int):=by omega
     have HF:Hid (allTo M.m i (q+1)=pre++[(i,q)]):=hi_ (by rw[HTk.out,HIq.out,if_neg (by omega),hx];simp);clear hx hk hle;generalize l.length=ll at *;go_wp2_with fail
     go_roundw
     case rel=>
      have hln:(allTo M.m i (q+1)).length=pl+1:=by rw[HF.out,List.length_append,HPl.out];rfl
      refine⟨q+1,some ⟨gg,0,none⟩,cap5,by rw[hln],by go_num,by omega,HB5,hi_ ?_⟩;rw[hln,HF.out];exact HO5.out
     case measure=>simp[intOfV];omega
    |some c=>
     have hil:q<l.length:=by
      rcases Nat.lt_or_ge q l.length with h2|h2
      ·exact h2
      ·rw[List.getElem?_eq_none h2]at hx;cases hx
     have hlq:(q:Int)<(l.length:Int):=by omega
     obtain⟨ao2,cap2,hv2,hcs⟩:=HC.out w5 HB5.out;rw[HV.out]at hv2;obtain⟨g,hao,hg1,hcell⟩:=hcs _ _ hx;injection hv2 with e1 e2 e3
     subst e1;subst hao;have Q3:=hi_ (IH.out _ (List.mem_of_getElem? hx) w5 HB5.out);have HF:Hid (allTo M.m i (q+1)=(pre++[(i,q)])++all M.m c):=hi_ (by rw[HTk.out,HIq.out,if_neg (by omega),hx]);have hcp:=HAp.out c;have hcsh:=HAs.out c (List.mem_of_getElem? hx);clear hcs e2 e3 hx hk hil;generalize l.length=ll at *;go_wp2_with fail
     refine Q3.out.mono ?_;rintro e w6 ⟨v6,rfl,hb6,hown6⟩;obtain⟨g6,cap6,hv6,hg6b,hg6l,hcap6⟩:=own_some hown6 hcp;subst hv6;have HO6:=hi_ (own_below HO5.out hb6);have HB6:=bt_ HB5 hb6;have hc6:=ownsRow_open hown6;have hsz6:=HB6.out.size;generalize hcl:(all M.m c).length=cl at *;have HCl:=hi_ hcl;clear hcl hb6 Q3 HO5 HB5;have HNw:Hid (∀j u,((all M.m c).flatMap ptV)[j]?=some u->w6.cell? ((⟨g6,0,none⟩:Addr).add j)=some u):=hi_ (fun j u hu=>by
      rw[add_at,Nat.zero_add];have hj:j<((all M.m c).flatMap ptV).length:=by
       rcases Nat.lt_or_ge j ((all M.m c).flatMap ptV).length with h2|h2
       ·exact h2
       ·rw[List.getElem?_eq_none h2]at hu;cases hu
      rw[(hc6.2.2.2 j hj).1,hu])
     have HO6':Hid (w6.ownsRow w.heap.size 30 2 (.slice (some ⟨gg,0,none⟩) (pl+1) cap5) (pl+1) ((pre++[(i,q)]).flatMap ptV)):=hi_ (by
      have h1:=HO6.out;unfold OwnP at h1;rw[List.length_append,HPl.out]at h1;exact h1)
     have HNl:Hid (((all M.m c).flatMap ptV).length=cl*2):=hi_ (by rw[flat_len ptV_len,HCl.out]);have HN1:=hi_ (one_ptV (all M.m c));clear hc6 hown6 HO6;have HXs:Hid ((allTo M.m i (q+1)).flatMap ptV=(pre++[(i,q)]).flatMap ptV++(all M.m c).flatMap ptV):=hi_ (by rw[HF.out,List.flatMap_append]);generalize (pre++[(i,q)]).flatMap ptV=xs at *;generalize (all M.m c).flatMap ptV=ys at *;go_wp2_with (at_builtin;refine wpList_append_lies _ rfl _ _ 106 rfl w.heap.size 30 i0 _ 2 16 Tryz.underlying106 hi0 hz0 hz1 hz2 rfl (by decide) (.slice (some ⟨gg,0,none⟩) (pl+1) cap5) (pl+1) xs rfl HO6'.out ⟨g6,0,none⟩ cl cap6 ys rfl HNl.out HNw.out HN1.out hcp ?d4 ?d5 ?d6 w6.heap.size rfl ?_)
     case d4=>unfold maxLen;omega
     case d5=>omega
     case d6=>omega
     intro g7 cap7 w7 hown7 hgrow hat7 hlt7;have HB7:=hi_ (HB6.out.grown hgrow hsz6 (fun k hk=>(HO6'.out.lt k hk).1));have HO7:=hi_ hown7;clear hown7 hgrow hat7 HO6' HNw;go_wp2_with fail
     go_roundw
     case rel=>
      have hln:(allTo M.m i (q+1)).length=pl+1+cl:=by rw[HF.out,List.length_append,List.length_append,HPl.out,HCl.out];rfl
      refine⟨q+1,some ⟨g7,0,none⟩,cap7,by rw[hln],by go_num,by omega,HB7,hi_ ?_⟩;unfold OwnP RecRow;rw[hln,HXs.out];exact HO7.out
     case measure=>simp[intOfV];omega
   ·have hk1:¬(kd:Int)<3:=by omega
    have HF:Hid (allTo M.m i (q+1)=pre++[(i,q)]):=hi_ (by rw[HTk.out,HIq.out,if_pos (by omega)];simp);clear hk;generalize l.length=ll at *;go_wp2_with fail
    go_roundw
    case rel=>
     have hln:(allTo M.m i (q+1)).length=pl+1:=by rw[HF.out,List.length_append,HPl.out];rfl
     refine⟨q+1,some ⟨gg,0,none⟩,cap5,by rw[hln],by go_num,by omega,HB5,hi_ ?_⟩;rw[hln,HF.out];exact HO5.out
    case measure=>simp[intOfV];omega
end R
end
end Go.Proofs.YtinphfpdfodkkaaGreatDoor
