/- Texts. -/
import Derived.Test.YtinphfpdfodkkaaGreatDoorS17
set_option linter.unusedVariables false
set_option linter.unusedSimpArgs false
set_option maxHeartbeats 8000000
set_option maxRecDepth 100000
namespace Go.Proofs.YtinphfpdfodkkaaGreatDoor
section
open Go.RowKit Go.Sort
namespace A
open H G
theorem hp_{P:Program}(w:World)(t e ty:TypeId)(z0 z1:Value)(ht:P.underlying t=some (.slice e))(hv:∀w,(zeroValue e).run P w=.ok (.agg #[z0,z1]) w)(h0:z0.oneCell'=true)(h1:z1.oneCell'=true)(b o c:Nat)
  (hc:∀j,j<2->(w.cell? ⟨b,o+j,none⟩).isSome=true) (hf:∀j,j<2->w.frozen? ⟨b,o+j,none⟩=false) :
  (Builtin.clear_ #[t] ty #[.slice (some ⟨b,o,none⟩) 1 c]).run P w=.ok (.tuple #[]) (w.setCells b o [z0,z1]):=by
 have hzc:(Builtin.zeroCells (Value.agg #[z0,z1]).cells 1).toList=[z0,z1]:=by
  simp[Builtin.zeroCells,Value.cells];rfl
 have hst:=run_storeCells_cells (P:=P) b o [z0,z1] 0 w (by simpa using hc) (by simpa using hf) (by intro v hv';simp at hv';rcases hv' with rfl|rfl;exact h0;exact h1);simp only[Nat.add_zero]at hst;simp[Builtin.clear_,run_underlying ht,hv,hzc,hst]
theorem la_{l:List BB}{i:Nat}(hi:i<l.length)(z:List Value)(hz:z.length=2) :
  (lN_ (lN_ (l.flatMap aj_) (i*2) ((l.drop (i+1)).flatMap aj_)) ((l.length-1)*2) z).take ((l.length-1)*2)=(l.eraseIdx i).flatMap aj_:=by
 have e0:(l.flatMap aj_).length=l.length*2:=bY_ ar_ l;have e1:((l.drop (i+1)).flatMap aj_).length=(l.length-(i+1))*2:=by rw[bY_ ar_,List.length_drop]
 have e2:(lN_ (l.flatMap aj_) (i*2) ((l.drop (i+1)).flatMap aj_)).length=l.length*2:=by
  rw[fO_ _ _ _ (by omega)];simp only[List.length_append,List.length_take,List.length_drop,e0,e1];omega
 rw[fO_ _ _ _ (by omega),List.append_assoc,List.take_append_of_le_length (by rw[List.length_take];omega),List.take_take,Nat.min_self];rw[fO_ _ _ _ (by omega),eS_ ar_];have e3:((l.take i).flatMap aj_).length=i*2:=by rw[bY_ ar_,List.length_take];omega
 rw[List.take_append_of_le_length (by rw[List.length_append,e1,e3];omega)];rw[List.take_of_length_le (by rw[List.length_append,e1,e3];omega),<-List.flatMap_append,<-List.eraseIdx_eq_take_drop_succ]
theorem ld_{B:Nat}(l:List BB)(g cap i:Nat)(w:World)(h:ab_ aj_ B 142 2 w (.slice (some ⟨g,0,none⟩) l.length cap) l)(hi:i<l.length)(hl:l.length<=100000) :
  Calls Tryz.prog 129 #[.slice (some ⟨g,0,none⟩) l.length cap,.int .i64 i,.int .i64 (i+1:Nat)] w fun e w'=>e=.returned (.slice (some ⟨g,0,none⟩) (l.length-1) cap)/\H.Frame (fun k=>k=g) w w'/\ab_ aj_ B 142 2 w' (.slice (some ⟨g,0,none⟩) (l.length-1) cap) (l.eraseIdx i):=by
 obtain⟨i0,hi0,hz0,hz1,hz2⟩:=info_parts hy_;obtain⟨hgl,hgB,hcap,hcell⟩:=ad_ h;have e0:(l.flatMap aj_).length=l.length*2:=bY_ ar_ l;rw[e0]at hcell
 go_enter Tryz.func129,Tryz.ntmps129
 have n1:(i:Int)<=(i:Int)+1:=by omega
 have n2:(i:Int)+1<=(l.length:Int):=by omega
 have n3:(l.length:Int)<=(cap:Int):=by omega
 have n4:((i:Int)==(i:Int)+1)=false:=bn_ (by omega);have n5:¬(i:Int)=(i:Int)+1:=by omega
 have n6:(i:Int)<=(cap:Int):=by omega
 have n7:(0:Int)<=(i:Int):=by omega
 have n8:(0:Int)<=(i:Int)+1:=by omega
 have hj:((i+1:Nat):Int)=(i:Int)+1:=by push_cast;rfl
 obtain⟨A,hA,hsrc⟩:∃A:Addr,(if cap=i+1 then some (⟨g,0,none⟩:Addr)else some ⟨g,(i+1)*2,none⟩)=some A/\Hd (∀t u,((l.drop (i+1)).flatMap aj_)[t]?=some u->w.drew.cell? (A.add t)=some u):=by
  have e1:((l.drop (i+1)).flatMap aj_).length=(l.length-(i+1))*2:=by rw[bY_ ar_,List.length_drop]
  by_cases hc:cap=i+1
  ·refine⟨⟨g,0,none⟩,by simp[hc],fun t u hu=>?_⟩
   rw[List.getElem?_eq_none (by omega)]at hu
   cases hu
  refine⟨⟨g,(i+1)*2,none⟩,by simp[hc],fun t u hu=>?_⟩;have ht:t<(l.length-(i+1))*2:=by
   rcases Nat.lt_or_ge t ((l.drop (i+1)).flatMap aj_).length with h2|h2
   ·omega
   rw[List.getElem?_eq_none h2]at hu;cases hu
  rw[<-eT_ ar_,List.getElem?_drop]at hu;have hadd:(⟨g,(i+1)*2,none⟩:Addr).add t=⟨g,(i+1)*2+t,none⟩:=by unfold Addr.add;split<;>simp_all
  rw[hadd];exact(hcell _ (by omega)).1.trans hu
 have s1:Hd (((l.drop (i+1)).flatMap aj_).length=(l.length-(i+1))*2):=hi_ (by rw[bY_ ar_,List.length_drop]);have s2:Hd (∀u∈(l.drop (i+1)).flatMap aj_,u.oneCell'=true):=hi_ cw_;have s3:Hd (∀j,j<((l.drop (i+1)).flatMap aj_).length->(w.drew.cell? ⟨g,0+i*2+j,none⟩).isSome=true/\w.drew.frozen? ⟨g,0+i*2+j,none⟩=false):=hi_ (fun j hj=>by
  rw[s1.out]at hj;have hlt:0+i*2+j<l.length*2:=by omega
  refine⟨?_,(hcell _ hlt).2⟩;show(w.cell? _).isSome=true;rw[(hcell _ hlt).1,List.getElem?_eq_getElem (by rw[e0];exact hlt)]
  rfl)
 obtain⟨W1,hW1⟩:∃W1,W1=w.drew.setCells g (0+i*2) ((l.drop (i+1)).flatMap aj_):=⟨_,rfl⟩;have hrow1:W1.ownsRow B 142 2 (.slice (some ⟨g,0,none⟩) l.length cap) l.length (lN_ (l.flatMap aj_) (i*2) ((l.drop (i+1)).flatMap aj_)):=by
  rw[hW1,Nat.zero_add];exact b9_ _ _ _ _ (World.ownsRow.drew h)
 have hF1:H.Frame (fun k=>k=g) w W1:=by
  rw[hW1];exact bJ_ _ _ _ (Frame.drew (H.Frame.refl _ _)) (Or.inl rfl)
 have hrow2:=b9_ [.string ⟨#[]⟩,.string ⟨#[]⟩] ((l.length-1)*2) W1 _ hrow1;have hrow3:=fT_ hrow2 (k:=l.length-1) (by omega);rw[la_ hi _ rfl]at hrow3;have hF2:=bJ_ (S:=fun k=>k=g) (g:=g) [.string ⟨#[]⟩,.string ⟨#[]⟩] ((l.length-1)*2) W1 hF1 (Or.inl rfl);have hlen2:(lN_ (l.flatMap aj_) (i*2) ((l.drop (i+1)).flatMap aj_)).length=l.length*2:=hrow1.1;have hcl:∀ty,(Builtin.clear_ #[124] ty #[.slice (some ⟨g,(l.length-1)*2,none⟩) 1 (cap-(l.length-1))]).run Tryz.prog W1=.ok (.tuple #[]) (W1.setCells g ((l.length-1)*2) [.string ⟨#[]⟩,.string ⟨#[]⟩]):=fun ty=>by
  obtain⟨_,_,_,hc1⟩:=ad_ hrow1;refine hp_ W1 _ _ ty _ _ Tryz.underlying124 Tryz.zeroValue142 rfl rfl g _ _ (fun j hj=>?_) (fun j hj=>(hc1 _ (by rw[hlen2];omega)).2);rw[(hc1 _ (by rw[hlen2];omega)).1,List.getElem?_eq_getElem (by rw[hlen2];omega)];rfl
 have HR3:=hi_ hrow3;have HF2:=hi_ hF2;have HW:Hd (W1=w.drew.setCells g (0+i*2) ((l.drop (i+1)).flatMap aj_)):=hi_ hW1;have n9:i+(l.length-(i+1))<=cap:=by omega
 clear hW1 hrow1 hF1 hrow2 hrow3 hF2 hlen2 hcell h e0;go_wp2_with fail
 go_region_law ((refine step_append_room (by rfl) (.tmp 22) (.tmp 25) 124 (by rfl) 142 i0 2 Tryz.underlying124 hi0 hz1 g 0 i cap (by rfl) A (l.length-(i+1)) (cap-(i+1)) ((l.drop (i+1)).flatMap aj_) (by first|rfl|(simp[Act.eval,Act.put,hA];done)|(show Value.slice (if cap=i+1 then some (⟨g,0,none⟩:Addr)else some ⟨g,(i+1)*2,none⟩) (l.length-(i+1)) (cap-(i+1))=_;rw[hA])) s1.out hsrc.out s2.out n9 s3.out ?_;rw[<-HW.o]))
 have e9:i+(l.length-(i+1))=l.length-1:=by omega
 have m1:l.length-(l.length-1)=1:=by omega
 have m2:((l.length-1:Nat):Int)<=(l.length:Int):=by omega
 rw[e9];generalize hn:l.length-1=n1 at *;have HN:=hi_ hn;clear hn;go_wp2_with fail
 go_ret
 rw[HN.o];refine⟨rfl,HF2.o,?_⟩;unfold ab_;rw[show(l.eraseIdx i).length=n1 by rw[List.length_eraseIdx,if_pos hi,HN.o]];exact HR3.o
theorem gI_(m:aa_)(h:Nat)(nm:List UInt8) :
  ((nd m h).kind≠2->ax_ m h nm=([],10,m))/\((nd m h).kind=2->bj_ m h nm=none->ax_ m h nm=([],0,m)) ∧
  (∀i,(nd m h).kind=2->bj_ m h nm=some i->ax_ m h nm=([aM_ h nm (((nd m h).attrs[i]?.map (·.2)).getD []) true],0,upd m h fun x=>{ x with attrs:=x.attrs.eraseIdx i })):=by
 refine⟨fun h1=>?_,fun h1 h2=>?_,fun i h1 h2=>?_⟩
 ·unfold ax_;rw[if_pos h1]
 ·unfold ax_;rw[if_neg (by simpa using h1),h2]
 unfold ax_;rw[if_neg (by simpa using h1),h2]
theorem hC_(T:am_)(z:Int)(nm:List UInt8)(w:World)(hT:al_ w T)(hz:-9223372036854775808<=z)(hz2:z<=9223372036854775807)(hp:T.ptr 1 z=none) :
  Calls Tryz.prog 67 #[.pointer (some ⟨T.tb,0,none⟩),.int .i64 z,.string ⟨nm.toArray⟩] w fun e w'=>e=.returned (.tuple #[.slice none 0 0,.int .i64 6])/\Below w.heap.size w w':=by
 have Q1:=hi_ (fo_ T z w hT hz hz2 hp);clear hT hp
 go_enter Tryz.func67,Tryz.ntmps67
 go_wp2_with fail
 refine Q1.o.mono ?_;rintro e w2 ⟨rfl,hb2⟩;go_wp2_with fail
 exact bodyPost_ret (v:=.tuple #[.slice none 0 0,.int .i64 6]) (by simp[results,Tryz.results67,go_sem]) rfl ⟨rfl,hb2⟩
theorem m4_(T:am_)(m:aa_)(pos:Nat->Nat)(h:Nat)(nm:List UInt8)(w:World)(hT:ag_ w T m pos)(hh:has m h=true)(hl:(nd m h).attrs.length<=1000) :
  Calls Tryz.prog 67 #[.pointer (some ⟨T.tb,0,none⟩),.int .i64 (hd T pos h),.string ⟨nm.toArray⟩] w fun e w'=>∃v T',e=.returned (.tuple #[v,.int .i64 ((ax_ m h nm).2.1:Nat)])/\H.Frame (fun k=>k=T.g) w w'/\bb_ T T'/\ag_ w' T' (ax_ m h nm).2.2 pos/\aD_ T pos w.heap.size w' v (ax_ m h nm).1:=by
 have hF:=hT.fits;have hpl:=hF.lt h hh;have HT:=hi_ hT;have Q1:=hi_ (kd_ T m pos h w hT hh);have QD:=hi_ (fun W (hW:Below w.heap.size w W)=>o4_ T m pos h nm W (hT.below hW) hh (by omega));obtain⟨ao,cap,hav⟩:=aw_.slice (hT.attrs hh);rw[hF.attrs h hh]at hav;have HA:=hi_ (fun W (hW:Below w.heap.size w W)=>(show aw_ W (.slice ao (nd m h).attrs.length cap) (nd m h).attrs from by
  have h1:=(hT.below hW).attrs hh;rw[hF.attrs h hh,hav]at h1;exact h1))
 have HK:=hi_ (fun W (hW:Below w.heap.size w W)=>(show W.cell? ⟨T.g,pos h*10+3,none⟩=some (.slice ao (nd m h).attrs.length cap)from by
  rw[<-hav];exact((hT.below hW).cell hh (k:=3) (by omega)).1))
 have HKf:=hi_ (fun W (hW:Below w.heap.size w W)=>((hT.below hW).cell hh (k:=3) (by omega)).2);have HSC:=hi_ (gI_ m h nm);obtain⟨R,hR⟩:∃R,R=ax_ m h nm:=⟨_,rfl⟩;rw[<-hR]at HSC ⊢;clear hT hR hav
 go_enter Tryz.func67,Tryz.ntmps67
 go_wp2_with fail
 refine Q1.o.mono ?_;rintro e w1 ⟨⟨hk,rfl⟩|⟨hk,rfl⟩,hb1⟩
 ·have HB1:=hi_ hb1
  have HS1:=hi_ (HSC.o.2.1 hk);have HS2:=hi_ (fun i=>HSC.o.2.2 i hk);clear hb1 hk Q1 HSC;go_wp2_with fail
  refine(QD.o _ HB1.o).mono ?_;rintro e w4 ⟨rfl,hb4⟩;have HB4:=bt_ HB1 hb4;have k3:=HK.o w4 HB4.o;have hgl:=(ad_ (HT.o.below HB4.o).mem.row).1;clear hb4
  cases hat:bj_ m h nm with
  |none=>
   have HRr:=hi_ (HS1.o hat);rw[show hL_ (none:Option Nat)=-1 from rfl];clear hat;go_wp2_with fail
   refine bodyPost_ret (v:=.tuple #[.slice none 0 0,.int .i64 0]) (by simp[results,Tryz.results67,go_sem]) rfl ⟨.slice none 0 0,T,by rw[HRr.o];rfl,H.Frame.of HB4.o,bb_.refl T,by rw[HRr.o];exact HT.o.below HB4.o,by rw[HRr.o];exact aD_.nil _ _ _ _⟩
  |some i=>
   have HRr:=hi_ (HS2.o i hat);rw[show hL_ (some i)=(i:Int)from rfl];obtain⟨hil,old,hold⟩:∃hil:i<(nd m h).attrs.length,∃old,((nd m h).attrs[i]'hil).2=old:=by
    unfold bj_ at hat;rw[List.findIdx?_eq_some_iff_getElem]at hat;obtain⟨h1,h2,_⟩:=hat;exact⟨h1,_,rfl⟩
   have HOld:Hd ((((nd m h).attrs[i]?.map (·.2)).getD [])=old):=hi_ (by rw[List.getElem?_eq_getElem hil];exact hold);generalize hll:(nd m h).attrs=l at *;have HLl:=hi_ hll;have hiI:(i:Int)<(l.length:Int):=by omega
   have hi0:¬(i:Int)<0:=by omega
   obtain⟨ag,acap2,hav2,hagB,hagl,hagc⟩:=a1_ (HA.o w4 HB4.o) (by omega);injection hav2 with e1 _ e3
   subst e1 e3;have cA:=(ab_.cell ar_ (HA.o w4 HB4.o) hil (k:=1) (by omega)).1;have cA':w4.cell? ⟨ag,i*2+1,none⟩=some (.string ⟨old.toArray⟩):=by rw[cA,<-hold];rfl
   have wi:wrap64 ((i:Int)+1)=(i:Int)+1:=by unfold wrap64;omega
   have wi2:IntKind.i64.wrap ((i:Int)+1)=(i:Int)+1:=IntWalk.i64_in _ (by omega);have HB5:=hi_ (HB4.o.alloc HB4.o.size (.cells (nP_ (hd T pos h) nm old true) 73));have HR5:=hi_ (Blk.new w4 (nP_ (hd T pos h) nm old true) 73);have QC:=hi_ (dH_ _ l _ (HA.o _ HB5.o) (by omega));have k5:=HK.o _ HB5.o;have HIl:=hi_ hil;unfold nP_ at QC HB5 HR5 k5;clear hll hat HS1 HS2 cA hold;go_wp2_with fail
   refine QC.o.mono ?_;rintro e w6 ⟨V1,rfl,hr6,hb6⟩;have HB6:=bt_ HB5 hb6;have HR6:=hi_ (HR5.o.below hb6);obtain⟨cg,bcap,hV1,hcg1,hcg2,hcg3⟩:=a1_ hr6 (by omega);subst hV1;have QX:=hi_ (ld_ l cg bcap i w6 hr6 HIl.o (by omega));have hcgb:w4.heap.size+1<=cg:=by have:=(hr6.lt cg rfl).1;simpa using this
   have HW5:=hi_ HB5.o.size;clear hr6 hb6 QC HB5 HR5;rw[show((i+1:Nat):Int)=(i:Int)+1 by push_cast;rfl]at QX;go_wp2_with fail
   refine QX.o.mono ?_;rintro e w7 ⟨rfl,hf7,hr7⟩;have hrow6:=(HT.o.below HB6.o).mem.row;have hTcg:T.g≠cg:=by omega
   have hrow7:=ak_ hrow6 hf7 (fun k hk e=>by have e:k=cg:=e;have hk:some T.g=some k:=hk;injection hk with hk;omega);obtain⟨k7,f7⟩:=ab_.cell bv_ hrow7 hpl (k:=3) (by omega);have k7':w7.cell? ⟨T.g,pos h*10+3,none⟩=some (T.slots[pos h]'hpl).attrs:=k7;have hF7:=(H.Frame.of (S:=fun k=>k=T.g) HB6.o).trans hf7 (fun b hb=>Or.inr (by have hb:b=cg:=hb;have:=HW5.o;omega));have HF8:=hi_ (frG (g:=T.g) hF7 (pos h*10+3) (.slice (some ⟨cg,0,none⟩) (l.length-1) bcap));have hrow8:=fG_ hrow7 hpl (.slice (some ⟨cg,0,none⟩) (l.length-1) bcap) (l.eraseIdx i);have hV7:=dE_ hr7;have hne7:(Value.slice (some ⟨cg,0,none⟩) (l.length-1) bcap).ownBlock≠some T.g:=fun e=>hTcg (by injection e with e;exact e.symm)
   have HM8:=hi_ (al_.setA HT.o.mem HF8.o hrow8 (au_ hV7 hne7 (pos h*10+3) (.slice (some ⟨cg,0,none⟩) (l.length-1) bcap)));have HFit:=hi_ (hF.setA hh (.slice (some ⟨cg,0,none⟩) (l.length-1) bcap) (f:=fun x=>{ x with attrs:=x.attrs.eraseIdx i }) (al:=l.eraseIdx i) (fun x=>rfl) (by rw[<-HLl.o]));have hr4:w4.heap.size≠T.g:=by omega
   have hr4':¬w4.heap.size=T.g:=hr4;have hr4'':¬T.g=w4.heap.size:=fun e=>hr4 e.symm;have hR7:=HR6.o.frame hf7 (fun e=>by have e:w4.heap.size=cg:=e;omega);obtain⟨⟨r0,r1,r2,r3,r4,r5,r6,r7,r8,r9,r10⟩,_⟩:=bq_ hR7;have hgl7:=(ad_ hrow7).1;have hrl7:=hR7.lt;clear k7 hrow6 hrow7 hF7 hrow8 hV7 hf7 hr7 hR7;go_wp2_with fail
   have hz:(w7.setCell ⟨T.g,pos h*10+3,none⟩ (.slice (some ⟨cg,0,none⟩) (l.length-1) bcap)).heap.size=w7.heap.size:=by simp[World.setCell]
   have hrec:=fH_ (T:=T) (pos:=pos) (base:=w.heap.size) (w:=w7.setCell ⟨T.g,pos h*10+3,none⟩ (.slice (some ⟨cg,0,none⟩) (l.length-1) bcap)) (r:=aM_ h nm old true) rfl HF8.o.size;rw[hz]at hrec;rw[HOld.o]at HRr;refine bodyPost_ret (v:=.tuple #[.slice (some ⟨w7.heap.size,0,none⟩) 1 1,.int .i64 0]) (by simp[results,Tryz.results67,go_sem]) rfl ⟨_,T.setA (pos h) (.slice (some ⟨cg,0,none⟩) (l.length-1) bcap) (l.eraseIdx i),by rw[HRr.o];rfl,HF8.o.alloc _,bb_.setA _ _ _ _,?_,?_⟩
   ·rw[HRr.o]
    exact⟨HM8.o.below ((br_).alloc (nl_) _),HFit.o⟩
   rw[HRr.o];exact hrec
 have HRr:=hi_ (HSC.o.1 hk);have HB1:=hi_ hb1;clear hk hb1;go_wp2_with fail
 refine bodyPost_ret (v:=.tuple #[.slice none 0 0,.int .i64 10]) (by simp[results,Tryz.results67,go_sem]) rfl ⟨.slice none 0 0,T,by rw[HRr.o];rfl,H.Frame.of HB1.o,bb_.refl T,by rw[HRr.o];exact HT.o.below HB1.o,by rw[HRr.o];exact aD_.nil _ _ _ _⟩
end A
end
end Go.Proofs.YtinphfpdfodkkaaGreatDoor
