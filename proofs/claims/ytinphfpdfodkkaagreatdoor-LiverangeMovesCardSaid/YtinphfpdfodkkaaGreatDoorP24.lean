/- Texts. -/
import Derived.Test.YtinphfpdfodkkaaGreatDoorP21
set_option linter.unusedVariables false
set_option linter.unusedSimpArgs false
set_option maxHeartbeats 8000000
set_option maxRecDepth 100000
namespace Go.Proofs.YtinphfpdfodkkaaGreatDoor
section
open Go.RowKit Go.Shelf
namespace A
open H G
theorem drop2_(T:am_)(m:aa_)(pos:Nat->Nat)(h:Nat)(w:World)(hT:aj_ w T m pos)(hh:has m h=true)(hlm:m.length<=1000000) :
  Calls Tryz.prog 72 #[.pointer (some ⟨T.tb,0,none⟩),.int .i64 (hd T pos h)] w fun e w'=>∃T',e=.returned (.int .i64 ((cr_ m h).1:Nat))/\H.Frame T.foot w w'/\Goes w T T'/\aj_ w' T' (cr_ m h).2 pos/\T'.slots.length=T.slots.length:=by
 have hF:=hT.fits;have hfew:=hT.mem.few;have hpl:=hF.lt h hh;have hbj:=bA_ hfew hF hh;have hpj:=aP_ (T:=T) (pos:=pos) h;have Q1:=hi_ (at_ T (hd T pos h) w hT.mem (by omega) (by omega));rw[bH_ hfew hF hh 1]at Q1;have HK:=hi_ (fun W (hb:Below w.heap.size w W)=>(show W.cell? ⟨T.g,pos h*10+1,none⟩=some (.int .i64 ((nd m h).kind:Nat))/\W.cell? ⟨T.g,pos h*10+1+4,none⟩=some (.int .i64 (hdO T pos (nd m h).parent))from by
  refine⟨?_,?_⟩
  ·rw[((hT.below hb).cell hh (k:=1) (by omega)).1,<-hF.kind h hh];rfl
  ·rw[((hT.below hb).cell hh (k:=5) (by omega)).1,<-hF.parent h hh];rfl))
 have hk0:((nd m h).kind=1)↔h=0:=by
  constructor
  ·intro e
   rcases Nat.eq_zero_or_pos h with h0|h0
   ·exact h0
   ·have:=(hF.wf.kinds h (aR_ hh) h0).1;omega
  ·intro e;rw[e];exact hF.wf.doc.2.1
 have HT:=hi_ hT;have hlv:=ez_ hF hlm;have hff:=eE_ hF hfew;have hwf:=gS_ hF.wf hh;have hnd:=WF.walk_nodup hF.wf h;have hwh:=WF.walk_has hF.wf h hh;obtain⟨R,hR⟩:∃R,R=cr_ m h:=⟨_,rfl⟩;have HRr:Hid (R=if (nd m h).parent≠none\/(nd m h).kind=1 then(7,m) else(0,drop m h)):=hi_ hR;rw[<-hR];have HFd:=hi_ (fun(h1:(nd m h).parent=none) (h2:h≠0) T' D=>hF.drop (T':=T') hh h1 h2 hnd hwh D);have HC:=hi_ (fun W (hB:Below w.heap.size w W) b1 b2 hb1 hb2 c1 c2=>jK_ T m pos W (hT.below hB) h hh b1 b2 hb1 hb2 c1 c2 (by omega));have HPos:Hid (∀i,i∈walk m h->pos i<T.slots.length/\(T.sl (pos i)).used=true):=hi_ (fun i hi=>⟨hF.lt i (hwh i hi),hF.used i (hwh i hi)⟩);have HNd:Hid (((walk m h).map pos).Nodup):=hi_ (by
  rw[List.nodup_iff_pairwise_ne]at hnd ⊢;rw[List.pairwise_map];exact List.Pairwise.imp_of_mem (fun ha hb hne e=>hne (hF.inj _ _ (hwh _ ha) (hwh _ hb) e)) hnd)
 generalize (nd m h).kind=kd at *;generalize (nd m h).parent=par at *;generalize hL:walk m h=L at *;have hLl:L.length<=1000000:=by omega
 clear hT hF hR hnd hwh hwf
 go_enter Tryz.func72,Tryz.ntmps72
 go_wp2_with fail
 refine Q1.out.mono ?_;rintro e w1 ⟨rfl,hb1⟩;have HB1:=hi_ hb1;obtain⟨k1,k4⟩:=HK.out w1 hb1;clear hb1 Q1
 cases par with
 |some p=>
  have hp1:¬hdO T pos (some p)=0:=by have:=aP_ (T:=T) (pos:=pos) p;show ¬hd T pos p=0;omega
  have hp2:(hdO T pos (some p) != 0)=true:=bne_iff_ne.2 hp1;have HRs:Hid (R=(7,m)):=hi_ (by rw[HRr.out,if_pos (Or.inl (by simp))]);clear HRr;go_wp2_with fail
  go_ret
  exact⟨T,by rw[HRs.out];rfl,H.Frame.of HB1.out,Goes.refl w T,by rw[HRs.out];exact HT.out.below HB1.out,rfl⟩
 |none=>
  have hp1:hdO T pos none=0:=rfl;rw[hp1]at k4
  by_cases hd1:kd=1
  ·have HRs:Hid (R=(7,m)):=hi_ (by rw[HRr.out,if_pos (Or.inr hd1)])
   clear hk0;subst hd1;clear HRr;go_wp2_with fail
   go_ret
   exact⟨T,by rw[HRs.out];rfl,H.Frame.of HB1.out,Goes.refl w T,by rw[HRs.out];exact HT.out.below HB1.out,rfl⟩
  ·have HRs:Hid (R=(0,drop m h)):=hi_ (by rw[HRr.out,if_neg (by simp[hd1])])
   have h0:h≠0:=fun e=>hd1 (hk0.2 e);have hd2:((kd:Int)==1)=false:=bn_ (by omega);clear HRr;have QW:=hi_ (fun W=>Walk_ T.tb (hd T pos h) W);clear hk0 hd1;go_wp2_with fail
   refine(QW.out _).mono ?_;rintro e w2 ⟨rfl,rfl⟩;have hb3:Below w.heap.size w ((w1.alloc (.cells #[.pointer (some ⟨T.tb,0,none⟩)] 37)).alloc (.cells #[.int .i64 (hd T pos h)] 3)):=(HB1.out.alloc HB1.out.size _).alloc (by have:=HB1.out.size;simp;omega) _;have QC:=hi_ (HC.out _ hb3 w1.heap.size (w1.heap.size+1) (by simp;omega) (by simp) (by simp[go_sem]) (by simp[go_sem]));have HB3:=hi_ hb3;clear hb3 QW HC;generalize (w1.alloc (.cells #[.pointer (some ⟨T.tb,0,none⟩)] 37)).alloc (.cells #[.int .i64 (hd T pos h)] 3)=w3 at *;go_wp2_with fail
   refine QC.out.mono ?_;rintro e w4 ⟨v,rfl,hown,hb4⟩;obtain⟨ao,cap,hv,_⟩:=hown.form;subst hv;have HO4:=hi_ hown;have HB4:=bt_ HB3 hb4;have HT4:=hi_ (HT.out.below HB4.out).mem;have HNf:Hid (∀g,(Value.slice ao L.length cap).ownBlock=some g->¬T.foot g):=hi_ (fun g hg hf=>by
    have h1:=(World.ownsRow.lt hown g hg).1;have h2:=HB3.out.size
    rcases hf with e|e|e
    ·have:=HT.out.mem.blk.lt;omega
    ·have:=(ae_ HT.out.mem.row).1;omega
    ·have:=(World.ownsRow.lt HT.out.mem.free g e).2;omega)
   clear hown hb4 QC HB3 k1 k4;go_wp2_with fail
   go_loopw [32] (fun v32 wr=>∃(i:Nat) (T':am_),v32=.int .i64 (i:Nat)/\i<=L.length/\Hid (al_ wr T')/\Hid (Gone T T' ((L.take i).map pos))/\Hid (Goes w T T')/\Hid (H.Frame T.foot w wr)/\Hid (eO_ T pos w3.heap.size wr (.slice ao L.length cap) L)/\Hid (∀g,(Value.slice ao L.length cap).ownBlock=some g->¬T'.foot g))
    (fun v32 _=>L.length-(Go.RowKit.intOf v32).toNat)
   case atStart=>
    exact⟨0,T,rfl,Nat.zero_le _,HT4,hi_ (by rw[List.take_zero];exact Gone.refl T),hi_ (Goes.refl w T),hi_ (H.Frame.of HB4.out),HO4,HNf⟩
   case round=>
    obtain⟨i,T',rfl,hi,HM,HG,HGo,HFr,HO,HN⟩:=hrel
    rcases Nat.lt_or_ge i L.length with hlt|hge
    ·obtain⟨ao',cap',hv,hcells⟩:=HO.out.form
     obtain⟨g,hao,hg,hbg,hcell⟩:=hcells i L[i] (List.getElem?_eq_getElem hlt);injection hv with e1 e2 e3
     subst e1 e3;subst hao;have hmem:L[i]∈L:=List.getElem_mem hlt;have htk:(L.take (i+1)).map pos=(L.take i).map pos++[pos L[i]]:=by
      rw[List.take_add_one,List.getElem?_eq_getElem hlt,List.map_append];rfl
     have hnew:pos L[i]∉(L.take i).map pos:=by
      have h1:=HNd.out;have e0:L=L.take i++L[i] :: L.drop (i+1):=by
       have h2:L.drop i=L[i] :: L.drop (i+1):=List.drop_eq_getElem_cons hlt;rw[<-h2,List.take_append_drop]
      rw[e0,List.map_append,List.map_cons,List.nodup_append]at h1;intro hm;exact h1.2.2 _ hm _ (List.mem_cons_self ..) rfl
     obtain⟨hp1,hp2⟩:=HPos.out _ hmem;have hlen':=HG.out.len;have hus:(T'.sl (pos L[i])).used=true:=by rw[HG.out.sl _ hnew];exact hp2
     have hfr':T'.frees.length=T.frees.length+i:=by rw[HG.out.frees,List.length_append,List.length_map,List.length_take];omega
     have hlv':T'.live=T.live-(i:Nat):=by rw[HG.out.live,List.length_map,List.length_take];congr 2;omega
     have Q5:=mm_ T' (pos L[i]) wr HM.out (by omega) hus (by omega) (by omega);rw[HGo.out.tb,HGo.out.bs,HGo.out.st]at Q5;have HQ5:=hi_ Q5;have HG2:=hi_ (fun V=>(HG.out.step hp1 V));rw[<-htk]at HG2;have htb:=HM.out.blk.lt;rw[HGo.out.tb]at htb;have hii:(i:Int)<(L.length:Int):=by omega
     have hcell':World.cell? wr ⟨g,i,none⟩=some (.int .i64 (handle T.bs T.st (pos L[i]))):=hcell;have hgf:=HN.out g rfl;have HgN:=hi_ hgf;have hsz:=HFr.out.size;generalize pos L[i]=s at *;clear Q5 hmem htk hnew hp2 hus hcells hcell hlen' hfr' hlv' hgf;go_wp2_with fail
     refine HQ5.out.mono ?_;rintro e w5 ⟨gf,fcap,rfl,hf5,hm5,hgf5⟩;have HM5:=hi_ hm5;have HG5:=hi_ (HG2.out (.slice (some ⟨gf,0,none⟩) (T'.frees.length+1) fcap));have hgo:=kh_ (w:=wr) (s:=s) (n:=T'.frees.length+1) (fcap:=fcap) hgf5;have HGo5:=hi_ (HGo.out.trans hsz hgo);have HFr5:=hi_ (HFr.out.trans hf5 (fun b hb=>HGo.out.foot b hb));have HO5:=hi_ (show eO_ T pos w3.heap.size w5 (.slice (some ⟨g,0,none⟩) L.length cap) L from ah_ HO.out hf5 (fun g' hg'=>HN.out g' hg'));have HN5:Hid (∀g',(Value.slice (some ⟨g,0,none⟩) L.length cap).ownBlock=some g'->¬(T'.freed s (.slice (some ⟨gf,0,none⟩) (T'.frees.length+1) fcap)).foot g'):=hi_ (fun g' hg' hf=>by
      have hlt':=(World.ownsRow.lt HO.out g' hg').2
      rcases hgo.foot g' hf with h1|h1
      ·exact HN.out g' hg' h1
      ·omega)
     clear hm5 hf5 hgf5 hgo;go_wp2_with fail
     go_roundw
     case rel=>exact⟨i+1,_,by go_num,by omega,HM5,HG5,HGo5,HFr5,HO5,HN5⟩
     case measure=>simp[Go.RowKit.intOf];omega
    ·have hie:i=L.length:=by omega
     have HD:Hid (i1_ T T' L pos):=hi_ (by
      have h1:=HG.out;rw[hie,List.take_length]at h1;exact h1.dropped HGo.out (fun i hi=>(HPos.out i hi).1))
     subst hie;have hnot:¬((L.length:Nat):Int)<((L.length:Nat):Int):=by omega
     go_wp2_with fail
     go_ret
     refine⟨by rw[HRs.out];rfl,?_⟩;exact⟨HFr.out,T',HGo.out,by rw[HRs.out];exact⟨HM.out,HFd.out trivial h0 T' HD.out⟩,HG.out.len⟩
end A
end
end Go.Proofs.YtinphfpdfodkkaaGreatDoor
