/- Texts. -/
import Derived.Test.YtinphfpdfodkkaaGreatDoorP22
import Derived.Test.YtinphfpdfodkkaaGreatDoorP14
set_option linter.unusedVariables false
set_option linter.unusedSimpArgs false
set_option maxHeartbeats 8000000
set_option maxRecDepth 100000
namespace Go.Proofs.YtinphfpdfodkkaaGreatDoor
section
open Go.RowKit Go.Sort
namespace A
open H G
theorem go_{B:Nat}{m m':aa_}(hL:Low B m)(hk:∀i,i<B->nd m' i=nd m i):∀(n h:Nat),h<B->d5_ m' n h=d5_ m n h
 |0,_,_=>rfl
 |n+1,h,hh=>by
  rw[d5_,d5_,hk h hh];exact congrArg (h :: ·) (cd_ fun c hc=>go_ hL hk n c (hL h hh c hc))
theorem h9_:∀(n:Nat) {m:aa_} (W:WF m) {h:Nat},h<m.length->0<h->G.low m n h->(copyT n m h true).length=m.length+(d5_ m n h).length
 |0,m,W,h,hh,h0,hl=>hl.elim
 |n+1,m,W,h,hh,h0,hl=>by
  have e1:copyT (n+1) m h true=(nd m h).kids.foldl (cF_ n m.length) (m++[bare (nd m h)]):=by rw[copyT,if_pos rfl];rfl
  have hf:∀(l:List Nat) (m':aa_),(∀c∈l,c∈(nd m h).kids)->dQ_ m m' h->(l.foldl (cF_ n m.length) m').length=m'.length+(l.flatMap (d5_ m n)).length:=by
   intro l
   induction l with
   |nil=>intro m' _ _;simp
   |cons c t ih=>
    intro m' hc C;have hck:=hc c (by simp);obtain⟨hcm,hcp⟩:=W.kid h c hck;have hc0:0<c:=by
     rcases Nat.eq_zero_or_pos c with e|e
     ·subst e;rw[W.doc.2.2.1]at hcp;cases hcp
     ·exact e
    have hmore:=C.more;obtain⟨C2,W3,C3⟩:=WF.copy_step n W C hck (hl c hck);have h1:=h9_ n C.wf (h:=c) (by omega) hc0 (dx_ W.low_all C.old hcm (hl c hck));rw[go_ W.low_all C.old n c hcm]at h1;have h3:=ih (cF_ n m.length m' c) (fun d hd=>hc d (by simp[hd])) C3;rw[List.foldl_cons,h3,d3_,h1,List.flatMap_cons,List.length_append];omega
  rw[e1,hf _ _ (fun c hc=>hc) (WF.copied_one W hh h0),d5_];simp;omega
theorem f3_{m:aa_}(W:WF m){h:Nat}(hh:has m h=true)(h0:0<h)(deep:Bool):(copyT 128 m h deep).length<=2*m.length+1:=by
 cases deep with
 |false=>
  rw[show(128:Nat)=127+1 from rfl,copyT,if_neg (by simp)];simp;omega
 |true=>
  have h1:=h9_ 128 W (aR_ hh) h0 (WF.low W 128 h (by have:=W.depth_pos h;omega));have h2:=gS_ W hh;unfold walk at h2;omega
theorem mf_:∀n,mu_ n
 |0=>fun B T m pos h deep w _ _ _ _ _ _ _ hlo=>hlo.elim
 |n+1=>iR_ n (mf_ n)
theorem len_(T:am_)(w:World)(hT:al_ w T):Calls Tryz.prog 88 #[.pointer (some ⟨T.tb,0,none⟩)] w fun e w'=>e=.returned (.int .i64 T.live)/\Below w.heap.size w w':=by
 obtain⟨hc,hf⟩:=ad_ hT.blk;have c4:w.cell? ⟨T.tb,4,none⟩=some (.int .i64 T.live):=hc 4;clear hc hf hT
 go_enter Tryz.func88,Tryz.ntmps88
 go_wp2_with fail
 go_ret
 exact⟨rfl,br_⟩
theorem copy_(T:am_)(m:aa_)(pos:Nat->Nat)(h:Nat)(deep:Bool)(w:World)(hT:aj_ w T m pos)(hh:has m h=true)(hlm:m.length<=5000)(hA:∀i,i<m.length->(nd m i).attrs.length<=100000)(hsl:T.slots.length<=m.length) :
  Calls Tryz.prog 130 #[.pointer (some ⟨T.tb,0,none⟩),.int .i64 (hd T pos h),.bool deep] w fun e w'=>∃T' pos',e=.returned (.tuple #[.int .i64 (if (nd m h).kind=1 then 0 else hd T pos' m.length),.int .i64 ((a2_ m h deep).1:Nat)])/\H.Frame T.foot w w'/\Goes w T T'/\aj_ w' T' (a2_ m h deep).2 pos'/\(∀i,i<m.length->pos' i=pos i)/\T'.slots.length<=(a2_ m h deep).2.length:=by
 have hF:=hT.fits;have hfew:=hT.mem.few;have hbj:=bA_ hfew hF hh;have hpj:=aP_ (T:=T) (pos:=pos) h;have Q1:=hi_ (at_ T (hd T pos h) w hT.mem (by omega) (by omega));rw[bH_ hfew hF hh 1]at Q1;have HK:=hi_ (fun W (hb:Below w.heap.size w W)=>(show W.cell? ⟨T.g,pos h*10+1,none⟩=some (.int .i64 ((nd m h).kind:Nat))from by
  rw[((hT.below hb).cell hh (k:=1) (by omega)).1,<-hF.kind h hh];rfl))
 have HT:=hi_ hT;have hlv:=ez_ hF (by omega);have hlv2:T.live<=(m.length:Int):=by
  have h1:=hF.live;have h2:=List.length_filter_le (has m) (List.range m.length);rw[List.length_range]at h2;omega
 have hwf:=gS_ hF.wf hh;have hk0:(nd m h).kind≠1->0<h:=fun hk=>by
  rcases Nat.eq_zero_or_pos h with e|e
  ·rw[e,hF.wf.doc.2.1]at hk;exact absurd rfl hk
  ·exact e
 have QC:=hi_ (fun W (hb:Below w.heap.size w W) (h0:0<h)=>mf_ 128 m.length T m pos h deep W (hT.below hb) hh h0 (nl_) (aR_ hh) hF.wf.low_all hA (WF.low hF.wf 128 h (by have:=hF.wf.depth_pos h;omega)) (by have:=f3_ hF.wf hh h0 deep;omega) hsl);have QL:=hi_ (fun W (hb:Below w.heap.size w W)=>len_ T W (hT.below hb).mem);have HC:=hi_ (fun W (hB:Below w.heap.size w W) b1 b2 hb1 hb2 c1 c2=>jK_ T m pos W (hT.below hB) h hh b1 b2 hb1 hb2 c1 c2 (by omega));have QW:=hi_ (fun W=>Walk_ T.tb (hd T pos h) W);have HSl:=hi_ hsl;obtain⟨R,hR⟩:∃R,R=a2_ m h deep:=⟨_,rfl⟩;have HRr:Hid (R=if (nd m h).kind=1 then(10,m) else(0,copyT 128 m h deep)):=hi_ hR;rw[<-hR];generalize (nd m h).kind=kd at *;generalize hL:walk m h=L at *;clear hT hF hR hA hsl
 go_enter Tryz.func130,Tryz.ntmps130
 go_wp2_with fail
 refine Q1.out.mono ?_;rintro e w1 ⟨rfl,hb1⟩;have HB1:=hi_ hb1;have k1:=HK.out w1 hb1;clear hb1 Q1
 by_cases hd1:kd=1
 ·have HRs:Hid (R=(10,m)):=hi_ (by rw[HRr.out,if_pos hd1])
  clear hk0;subst hd1;clear HRr;go_wp2_with fail
  refine bodyPost_ret (v:=.tuple #[.int .i64 0,.int .i64 10]) (by simp[results,Tryz.results130,go_sem]) rfl ⟨?_,H.Frame.of HB1.out,T,Goes.refl w T,pos,by rw[HRs.out];exact HT.out.below HB1.out,fun _ _=>rfl,by rw[HRs.out];exact HSl.out⟩;rw[HRs.out];rfl
 ·have HRs:Hid (R=(0,copyT 128 m h deep)):=hi_ (by rw[HRr.out,if_neg hd1])
  have h0:=hk0 hd1;have hd2:((kd:Int)==1)=false:=bn_ (by omega);clear HRr hk0
  cases deep with
  |false=>
   have HB4:=HB1;have wq:IntKind.i64.wrap (T.live+1)=T.live+1:=IntWalk.i64_in _ (by omega);have wc:decide ((20000:Int)<T.live+1)=false:=decide_eq_false (by omega);have wc2:T.live+1<=20000:=by omega
   clear HC QW;go_wp2_with fail
   refine(QL.out _ HB4.out).mono ?_;rintro e w5 ⟨rfl,hb5⟩;have HB5:=bt_ HB4 hb5;have Q6:=hi_ (QC.out w5 HB5.out h0);clear hb5 QL HB4;go_wp2_with fail
   refine Q6.out.mono ?_;rintro e w6 ⟨T',pos',rfl,hf6,hgo6,ht6,hp6,hs6⟩;have HF6:=hi_ ((H.Frame.of (S:=T.foot) HB5.out).trans hf6 (fun b hb=>Or.inl hb));have HGo6:=hi_ ((Goes.refl w T).trans HB5.out.size hgo6);go_wp2_with fail
   refine bodyPost_ret (v:=.tuple #[.int .i64 (hd T pos' m.length),.int .i64 0]) (by simp[results,Tryz.results130,go_sem]) rfl ⟨T',pos',?_,HF6.out,HGo6.out,by rw[HRs.out];exact ht6,hp6,by rw[HRs.out];exact hs6⟩;rw[HRs.out];rfl
  |true=>
   have hLl:(L.length:Int)<=5000:=by omega
   have wq:IntKind.i64.wrap (T.live+(L.length:Int))=T.live+(L.length:Int):=IntWalk.i64_in _ (by omega);have wc:decide ((20000:Int)<T.live+(L.length:Int))=false:=decide_eq_false (by omega);have wc2:T.live+(L.length:Int)<=20000:=by omega
   go_wp2_with fail
   refine(QW.out _).mono ?_;rintro e w2 ⟨rfl,rfl⟩;have hb3:Below w.heap.size w ((w1.alloc (.cells #[.pointer (some ⟨T.tb,0,none⟩)] 37)).alloc (.cells #[.int .i64 (hd T pos h)] 3)):=(HB1.out.alloc HB1.out.size _).alloc (by have:=HB1.out.size;simp;omega) _;have QCc:=hi_ (HC.out _ hb3 w1.heap.size (w1.heap.size+1) (by simp;omega) (by simp) (by simp[go_sem]) (by simp[go_sem]));have HB3:=hi_ hb3;clear hb3 QW HC;generalize (w1.alloc (.cells #[.pointer (some ⟨T.tb,0,none⟩)] 37)).alloc (.cells #[.int .i64 (hd T pos h)] 3)=w3 at *;go_wp2_with fail
   refine QCc.out.mono ?_;rintro e w4 ⟨v,rfl,hown,hb4⟩;obtain⟨ao,cap,hv,_⟩:=hown.form;subst hv;have HB4:=bt_ HB3 hb4;clear hown hb4 QCc HB3 k1;go_wp2_with fail
   refine(QL.out _ HB4.out).mono ?_;rintro e w5 ⟨rfl,hb5⟩;have HB5:=bt_ HB4 hb5;have Q6:=hi_ (QC.out w5 HB5.out h0);clear hb5 QL HB4;go_wp2_with fail
   refine Q6.out.mono ?_;rintro e w6 ⟨T',pos',rfl,hf6,hgo6,ht6,hp6,hs6⟩;have HF6:=hi_ ((H.Frame.of (S:=T.foot) HB5.out).trans hf6 (fun b hb=>Or.inl hb));have HGo6:=hi_ ((Goes.refl w T).trans HB5.out.size hgo6);go_wp2_with fail
   refine bodyPost_ret (v:=.tuple #[.int .i64 (hd T pos' m.length),.int .i64 0]) (by simp[results,Tryz.results130,go_sem]) rfl ⟨T',pos',?_,HF6.out,HGo6.out,by rw[HRs.out];exact ht6,hp6,by rw[HRs.out];exact hs6⟩;rw[HRs.out];rfl
end A
end
section
open Go.RowKit Go.Sort
namespace A
open H G R
theorem make1_(a:BB)(w:World)(ha:a.2.length<=1000000) :
  Calls Tryz.prog 110 #[.agg #[.string ⟨a.1.toArray⟩,.string ⟨a.2.toArray⟩]] w fun e w'=>e=.returned (.bool false)/\Below w.heap.size w w':=by
 have HB:=hi_ ((Below.refl w.heap.size w).alloc (nl_) (.cells #[.string ⟨a.1.toArray⟩,.string ⟨a.2.toArray⟩] 142));have QL:Hid (∀W,Calls Tryz.prog 108 #[.string ⟨a.2.toArray⟩] W fun e w'=>e=.returned (.bool false)/\W=w'):=hi_ (fun W=>by
  have h:=N.long_ a.2 W
  rwa [decide_eq_false (by omega)]at h)
 go_enter Tryz.func110,Tryz.ntmps110
 go_wp2_with fail
 refine(QL.out _).mono ?_;rintro e w2 ⟨rfl,rfl⟩;go_wp2_with fail
 go_ret
 exact⟨rfl,HB.out⟩
theorem fa_(v:Value)(l:List BB)(w:World)(h:aw_ w v l)(hl:l.length<=1000000)(hs:∀a,a∈l->a.2.length<=1000000) :
  Calls Tryz.prog 109 #[v,.func (.func 110) #[] #[]] w fun e w'=>e=.returned (.bool false)/\Below w.heap.size w w':=by
 have Q:=gH_ v l w h hl 110 #[] (enters_of Tryz.func110 (by kernel_rfl) rfl) (fun _=>false) (fun W a ha hb=>(make1_ a W (hs a ha)).mono (fun e w' h=>⟨h.1,hb.trans (h.2.mono hb.size)⟩));have e:g9_ (l.findIdx? (fun _=>false))=-1:=by
  have:l.findIdx? (fun _=>false)=none:=by simp
  rw[this];rfl
 rw[e]at Q;have HQ:=hi_ Q;obtain⟨ao,cap,hv⟩:=aw_.slice h;subst hv;clear Q h
 go_enter Tryz.func109,Tryz.ntmps109
 go_wp2_with fail
 refine HQ.out.mono ?_;rintro e w2 ⟨rfl,hb⟩;go_wp2_with fail
 go_ret
 exact⟨rfl,hb⟩
end A
end
section
namespace G
theorem out_len(m:aa_)(h:Nat):(out m h).length=m.length:=by
 unfold out
 split
 ·rfl
 ·exact cB_ _ _ _
theorem mD_{m:aa_}(W:WF m)(lim:Option Nat)(o:Op):(step lim m o).2.2.length<=2*m.length+1:=by
 have h0:m.length<=2*m.length+1:=by omega
 have hp:=W.doc.1;unfold step
 split
 ·cases hmk:make m (2+o.kind % 10) o.s o.t o.al with
  |none=>exact h0
  |some m'=>
   dsimp only;unfold make at hmk
   split at hmk
   ·split at hmk
    ·injection hmk with hmk
     subst hmk
     simp;omega
    ·cases hmk
   ·injection hmk with hmk
    subst hmk
    simp;omega
 ·split
  ·split
   ·unfold insert
    split
    ·exact h0
    ·split
     ·exact h0
     ·show(put _ _ _ _).length<=_
      rw[bs_,out_len];exact h0
   ·exact h0
  ·split
   ·exact h0
   ·rename_i hh
    have hh:has m (o.at_ m)=true:=by simpa using hh
    split
    ·unfold by_
     split
     ·exact h0
     ·split
      ·exact h0
      ·show(cut _ _ _).length<=_
       rw[cB_];exact h0
    ·split
     ·unfold aD_
      split
      ·exact h0
      ·split
       ·exact h0
       ·split
        ·show(upd _ _ _).length<=_
         rw[cM_];exact h0
        ·split
         ·exact h0
         ·show(upd _ _ _).length<=_
          rw[cM_];exact h0
     ·split
      ·unfold aG_
       split
       ·exact h0
       ·split
        ·exact h0
        ·show(upd _ _ _).length<=_
         rw[cM_];exact h0
      ·split
       ·unfold replace
        split
        ·exact h0
        ·split
         ·exact h0
         ·show(ch_ _ _ _).length<=_
          unfold ch_;rw[cM_];exact h0
       ·split
        ·unfold a2_
         split
         ·exact h0
         ·rename_i hk
          rcases Nat.eq_zero_or_pos (o.at_ m)with e|e
          ·rw[e]at hk;exact absurd W.doc.2.1 hk
          ·exact A.f3_ W hh e _
        ·unfold cr_
         split
         ·exact h0
         ·show(drop _ _).length<=_
          rw[c2_];exact h0
end G
end
section
open Go.RowKit Go.Sort
namespace A
open H G R
def mr_(w:World)(T:am_)(m:aa_)(pos:Nat->Nat)(e:Ending)(w':World):Option aa_->Prop
 |none=>e=.returned (.tuple #[.int .i64 0,.int .i64 1])/\Below w.heap.size w w'
 |some m'=>∃T' pos',e=.returned (.tuple #[.int .i64 (hd T pos' m.length),.int .i64 0])/\H.Frame T.foot w w'/\Goes w T T'/\aj_ w' T' m' pos'/\(∀i,i<m.length->pos' i=pos i)/\T'.slots.length<=m'.length
theorem jt_(T:am_)(m:aa_)(pos:Nat->Nat)(kd:Nat)(name data:List UInt8)(av:Value)(l:List BB)(w:World)(hT:aj_ w T m pos)(hlm:m.length<=5000)(hsl:T.slots.length<=m.length)(hk:kd=3\/kd=4)(hdt:data.length<=1000)(hTb:fi_ w) :
  Calls Tryz.prog 58 #[.pointer (some ⟨T.tb,0,none⟩),.int .i64 kd,.string ⟨name.toArray⟩,.string ⟨data.toArray⟩,av] w fun e w'=>mr_ w T m pos e w' (make m kd name data l):=by
 have hF:=hT.fits;have hfew:=hT.mem.few;have HT:=hi_ hT;have hlv:=ez_ hF (by omega);have hff:=eE_ hF hfew;have hlv2:T.live<=(m.length:Int):=by
  have h1:=hF.live;have h2:=List.length_filter_le (has m) (List.range m.length);rw[List.length_range]at h2;omega
 have HFr:=hi_ hF.frees;have hrl:=fB_ data;obtain⟨x,hx⟩:∃x:G.Node,x=⟨kd,[],[],U.rep data,none,[],false⟩:=⟨_,rfl⟩;have HRs:Hid (make m kd name data l=some (m++[x])):=hi_ (by unfold make;rw[if_neg (by omega),hx]);have HXe:=hi_ hx;have HKx:Hid (2<=x.kind/\x.kind<=4):=hi_ (by rw[hx];dsimp only;omega);have QL:=hi_ (fun W (hb:Below w.heap.size w W)=>len_ T W (hT.below hb).mem);have QR:=hi_ (fun W (hb:Below w.heap.size w W)=>g1_ data W (by omega) (hTb.below hb));have HB1:=hi_ ((Below.refl w.heap.size w).alloc (nl_) (.cells #[.int .i64 kd,.string ⟨#[]⟩,.slice none 0 0,.string ⟨#[]⟩,.int .i64 0,.int .i64 0,.int .i64 0,.int .i64 0,.int .i64 0] 126))
 have HX1:=hi_ (Blk.new w #[.int .i64 kd,.string ⟨#[]⟩,.slice none 0 0,.string ⟨#[]⟩,.int .i64 0,.int .i64 0,.int .i64 0,.int .i64 0,.int .i64 0] 126);have e2:((kd:Int)==2)=false:=bn_ (by omega);have wc:decide ((20000:Int)<=T.live)=false:=decide_eq_false (by omega);have wc2:T.live<20000:=by omega
 obtain⟨R,hR⟩:∃R,R=make m kd name data l:=⟨_,rfl⟩;rw[<-hR]at HRs ⊢;clear hT hF hR hx;generalize U.rep data=rd at *
 rcases hk with hk|hk
 all_goals (
  subst hk
  go_enter Tryz.func58,Tryz.ntmps58
  go_wp2_with fail
  generalize w.alloc (.cells #[.int .i64 _,.string ⟨#[]⟩,.slice none 0 0,.string ⟨#[]⟩,.int .i64 0,.int .i64 0,.int .i64 0,.int .i64 0,.int .i64 0] 126)=w1 at *;refine(QR.out w1 HB1.out).mono ?_;rintro e w2 ⟨rfl,hb2⟩;have HX2:=hi_ (HX1.out.below hb2);have HB2:=bt_ HB1 hb2;obtain⟨⟨k0,k1,k2,k3,k4,k5,k6,k7,k8⟩,⟨f0,f1,f2,f3,f4,f5,f6,f7,f8⟩⟩:=bZ_ HX2.out;have hlX:=HX2.out.lt;have HBt:=hi_ (HB2.out.setCell (p:=⟨w.heap.size,3,none⟩) (nl_) (.string ⟨rd.toArray⟩));obtain⟨ao,acap,hao,hac⟩:∃ao acap,ao=(none:Option Addr)/\acap=0:=⟨_,_,rfl,rfl⟩
  have HXt:Hid (Blk w.heap.size #[.int .i64 x.kind,.string ⟨x.name.toArray⟩,.slice ao x.attrs.length acap,.string ⟨x.data.toArray⟩,.int .i64 0,.int .i64 0,.int .i64 0,.int .i64 0,.int .i64 0] 126 (w2.setCell ⟨w.heap.size,3,none⟩ (.string ⟨rd.toArray⟩))):=hi_ (by
   rw[HXe.out,hao,hac];have h9:=HX2.out.set 3 (.string ⟨rd.toArray⟩);simp only[List.setIfInBounds_toArray,List.set_cons_zero,List.set_cons_succ]at h9;exact h9)
  have HAtt:Hid (aw_ (w2.setCell ⟨w.heap.size,3,none⟩ (.string ⟨rd.toArray⟩)) (.slice ao x.attrs.length acap) x.attrs):=hi_ (by
   rw[HXe.out,hao,hac];exact⟨rfl,Or.inl ⟨rfl,rfl⟩⟩)
  have hxa:x.attrs.length<=64:=by rw[HXe.out];simp
  have hxd:x.data.length<=3000:=by rw[HXe.out];dsimp only;omega
  have wa:decide ((64:Int)<(x.attrs.length:Int))=false:=decide_eq_false (by omega);have wa2:(x.attrs.length:Int)<=64:=by omega
  have HSh:Hid (∀a,a∈x.attrs->a.2.length<=1000000):=hi_ (by rw[HXe.out];intro a ha;cases ha);clear hb2 HX1 HB1 HX2 QR hao hac;go_upto_region 16 with fail
  clear k0 k1 k2 k3 k4 k5 k6 k7 k8 f0 f1 f2 f3 f4 f5 f6 f7 f8 hlX;generalize World.setCell w2 ⟨w.heap.size,3,none⟩ (.string ⟨rd.toArray⟩)=WX at *;obtain⟨⟨a0,a1,a2,a3,a4,a5,a6,a7,a8⟩,_⟩:=bZ_ HXt.out;have hlA:=HXt.out.lt;have HXl:=hi_ (fun W (hb:Below WX.heap.size WX W)=>bZ_ (HXt.out.below hb));have hlA2:=hi_ hlA;have QL2:=hi_ (QL.out WX HBt.out);go_wp2_with fail
  refine QL2.out.mono ?_;rintro e w5 ⟨rfl,hb5⟩;obtain⟨⟨b0,b1,b2,b3,b4,b5,b6,b7,b8⟩,_⟩:=HXl.out w5 hb5;have hlB:=Nat.lt_of_lt_of_le hlA2.out hb5.size;have QLo:Hid (Calls Tryz.prog 108 #[.string ⟨x.data.toArray⟩] w5 fun e w'=>e=.returned (.bool false)/\w5=w'):=hi_ (by
   have h:=N.long_ x.data w5
   rwa [decide_eq_false (by omega)]at h)
  have QCo:=hi_ (fa_ (.slice ao x.attrs.length acap) x.attrs w5 (own_below HAtt.out hb5) (by omega) HSh.out);have HB5:=hi_ hb5;clear a0 a1 a2 a3 a4 a5 a6 a7 a8 hlA QL2 hb5;go_wp2_with fail
  refine QLo.out.mono ?_;rintro e w5' ⟨rfl,rfl⟩;clear QLo;go_wp2_with fail
  refine QCo.out.mono ?_;rintro e w6 ⟨rfl,hb6⟩;have HB6:=bt_ HB5 hb6;obtain⟨⟨d0,d1,d2,d3,d4,d5,d6,d7,d8⟩,_⟩:=HXl.out w6 HB6.out;have hlC:=Nat.lt_of_lt_of_le hlA2.out HB6.out.size;have D0:=lc_ d0 hlC;have D1:=lc_ d1 hlC;have D2:=lc_ d2 hlC;have D3:=lc_ d3 hlC;have D4:=lc_ d4 hlC;have D5:=lc_ d5 hlC;have D6:=lc_ d6 hlC;have D7:=lc_ d7 hlC;have D8:=lc_ d8 hlC;clear b0 b1 b2 b3 b4 b5 b6 b7 b8 hlB QCo hb6;go_wp2_with fail
  refine aQ_ 4 (by kernel_rfl) (by kernel_rfl) ?_;simp only[List.take_succ_cons,List.take_zero,List.drop_succ_cons,List.drop_zero];repeat (go_big_quiet_step (fail))
  refine wq_ (fun dq=>?_);have HB7:=hi_ (HBt.out.trans ((HB6.out.trans (dq.h.mono HB6.out.size)).mono HBt.out.size));have HAt7:=hi_ (own_below (own_below HAtt.out HB6.out) dq.h);clear D0 D1 D2 D3 D4 D5 D6 D7 D8 d0 d1 d2 d3 d4 d5 d6 d7 d8 hlC HXl HB5 HB6;generalize dq.w=w4 at *;clear dq;have hTv:=(HT.out.below HB7.out).mem.v;have QA:=hi_ (add_ T (.slice (some ⟨T.g,0,none⟩) T.slots.length T.cap) x (.slice ao x.attrs.length acap) w4 hTv HFr.out HAt7.out (by omega) hlv hff);unfold fJ_ at QA;clear hTv;go_wp2_with fail
  refine QA.out.mono ?_;rintro e w8 ⟨g,cap,V',rfl,hf5,hm5,hg5,hv5⟩;have HAd:=hi_ (eX_ T (x:=x) (av:=.slice ao x.attrs.length acap) (g:=g) (cap:=cap) (V:=V') HFr.out);have HF5:=hi_ ((H.Frame.of (S:=T.foot) HB7.out).trans hf5 (fun b hb=>Or.inl (hc_ hb)));have hsz4:=HB7.out.size;have HGo4:=hi_ (fW_ (w:=w4) (r:=aL_ x (.slice ao x.attrs.length acap)) (cap:=cap) (show g=T.g\/w4.heap.size<=g from hg5.imp (fun e=>by have e:some T.g=some g:=e;injection e with e;exact e.symm) (fun e=>e)) hv5);have HGo5:=hi_ ((Goes.refl w T).trans hsz4 HGo4.out);have hFx:=HT.out.fits.add (x:=x) (by rw[HXe.out]) (by rw[HXe.out]) HKx.out (by rw[HXe.out]) HAd.out;have HL5:=hi_ (ha_ T (aL_ x (.slice ao x.attrs.length acap)) g cap V');go_wp2_with fail
  have hval:handle T.bs T.st T.next=hd T (iw_ m pos T.next) m.length:=by unfold hd;rw[cX_]
  refine bodyPost_ret (v:=.tuple #[.int .i64 (handle T.bs T.st T.next),.int .i64 0]) (by simp[results,Tryz.results58,go_sem]) rfl ?_;rw[HRs.out];exact⟨_,iw_ m pos T.next,by rw[hval],HF5.out,HGo5.out,⟨hm5,hFx⟩,fun i hi=>b6_ hi,by have:=HL5.out;simp;omega⟩)
def hm_(a:BB):BB:=(a.1,U.rep a.2)
theorem lI_:(Tryz.prog.info? 142).map (fun i=>(i.zero,i.size,i.bytes))=some (some (.agg #[.string ⟨#[]⟩,.string ⟨#[]⟩]),2,32):=by kernel_rfl
theorem Blk.node2{w:World}{A:Nat}{a b c d e f g h i:Value}{t:TypeId}(k:Blk A #[a,b,c,d,e,f,g,h,i] t w)(c':Value):Blk A #[a,b,c',d,e,f,g,h,i] t (w.setCell ⟨A,2,none⟩ c'):=by
 have h9:=k.set 2 c';simp only[List.setIfInBounds_toArray,List.set_cons_zero,List.set_cons_succ]at h9;exact h9
theorem Blk.node1{w:World}{A:Nat}{a b c d e f g h i:Value}{t:TypeId}(k:Blk A #[a,b,c,d,e,f,g,h,i] t w)(b':Value):Blk A #[a,b',c,d,e,f,g,h,i] t (w.setCell ⟨A,1,none⟩ b'):=by
 have h9:=k.set 1 b';simp only[List.setIfInBounds_toArray,List.set_cons_zero,List.set_cons_succ]at h9;exact h9
theorem m0_(T:am_)(m:aa_)(pos:Nat->Nat)(name data:List UInt8)(av:Value)(l:List BB)(w:World)(hT:aj_ w T m pos)(hlm:m.length<=5000)(hsl:T.slots.length<=m.length)(hnm:name.length<=100000)(hav:aw_ w av l)(hll:l.length<=60)(hls:∀a,a∈l->a.1.length<=1000/\a.2.length<=1000)(hTb:fi_ w) :
  Calls Tryz.prog 58 #[.pointer (some ⟨T.tb,0,none⟩),.int .i64 2,.string ⟨name.toArray⟩,.string ⟨data.toArray⟩,av] w fun e w'=>mr_ w T m pos e w' (make m 2 name data l):=by
 have hF:=hT.fits;have hfew:=hT.mem.few;have HT:=hi_ hT;have hlv:=ez_ hF (by omega);have hff:=eE_ hF hfew;have hlv2:T.live<=(m.length:Int):=by
  have h1:=hF.live;have h2:=List.length_filter_le (has m) (List.range m.length);rw[List.length_range]at h2;omega
 have HFr:=hi_ hF.frees;obtain⟨vo,vcap,hv⟩:=aw_.slice hav;subst hv;have HAv:=hi_ hav;obtain⟨R,hR⟩:∃R,R=make m 2 name data l:=⟨_,rfl⟩;have HRr:Hid (R=if dp_ name && aW_ l []then some (m++[⟨2,name,l.map hm_,[],none,[],false⟩])else none):=hi_ (by rw[hR];unfold make;rw[if_pos rfl];rfl);rw[<-hR];have QL:=hi_ (fun W (hb:Below w.heap.size w W)=>len_ T W (hT.below hb).mem);have QE:=hi_ (fun W (hb:Below w.heap.size w W)=>N.elementName_ name W (by omega) (hTb.below hb));have QT:=hi_ (fun W (hb:Below w.heap.size w W)=>attrs_ (.slice vo l.length vcap) l W (own_below hav hb) (by omega) (fun a ha=>by have:=hls a ha;omega) (hTb.below hb));have QR:=hi_ (fun s (hs:s.length<=1000) W (hb:Below w.heap.size w W)=>g1_ s W (by omega) (hTb.below hb))
 have HB1:=hi_ ((Below.refl w.heap.size w).alloc (nl_) (.cells #[.int .i64 2,.string ⟨#[]⟩,.slice none 0 0,.string ⟨#[]⟩,.int .i64 0,.int .i64 0,.int .i64 0,.int .i64 0,.int .i64 0] 126));have HX1:=hi_ (Blk.new w #[.int .i64 2,.string ⟨#[]⟩,.slice none 0 0,.string ⟨#[]⟩,.int .i64 0,.int .i64 0,.int .i64 0,.int .i64 0,.int .i64 0] 126);have wc:decide ((20000:Int)<=T.live)=false:=decide_eq_false (by omega);have wc2:T.live<20000:=by omega
 have HLs:=hi_ hls;clear hT hF hR hav hls
 go_enter Tryz.func58,Tryz.ntmps58
 go_wp2_with fail
 generalize w.alloc (.cells #[.int .i64 2,.string ⟨#[]⟩,.slice none 0 0,.string ⟨#[]⟩,.int .i64 0,.int .i64 0,.int .i64 0,.int .i64 0,.int .i64 0] 126)=w1 at *;refine(QE.out w1 HB1.out).mono ?_;rintro e w2 ⟨rfl,hb2⟩;have HB2:=bt_ HB1 hb2;have HX2:=hi_ (HX1.out.below hb2);clear hb2 QE HB1 HX1
 cases he:dp_ name with
 |false=>
  have HRs:Hid (R=none):=hi_ (by rw[HRr.out,he];rfl);clear he HRr;go_wp2_with fail
  refine bodyPost_ret (v:=.tuple #[.int .i64 0,.int .i64 1]) (by simp[results,Tryz.results58,go_sem]) rfl ?_;rw[HRs.out];exact⟨rfl,HB2.out⟩
 |true=>
  have HE:=hi_ he;clear he;go_wp2_with fail
  refine(QT.out w2 HB2.out).mono ?_;rintro e w3 ⟨rfl,hb3⟩;have HB3:=bt_ HB2 hb3;have HX3:=hi_ (HX2.out.below hb3);clear hb3 QT HB2 HX2
  cases ha:aW_ l [] with
  |false=>
   have HRs:Hid (R=none):=hi_ (by rw[HRr.out,HE.out,ha];rfl);clear ha HRr;go_wp2_with fail
   refine bodyPost_ret (v:=.tuple #[.int .i64 0,.int .i64 1]) (by simp[results,Tryz.results58,go_sem]) rfl ?_;rw[HRs.out];exact⟨rfl,HB3.out⟩
  |true=>
   obtain⟨x,hx⟩:∃x:G.Node,x=⟨2,name,l.map hm_,[],none,[],false⟩:=⟨_,rfl⟩;have HXe:=hi_ hx;have HRs:Hid (R=some (m++[x])):=hi_ (by rw[HRr.out,HE.out,ha,hx];rfl);have HKx:Hid (2<=x.kind/\x.kind<=4):=hi_ (by rw[hx];dsimp only;omega);clear ha HRr HE hx;obtain⟨⟨k0,k1,k2,k3,k4,k5,k6,k7,k8⟩,⟨f0,f1,f2,f3,f4,f5,f6,f7,f8⟩⟩:=bZ_ HX3.out;have hlX:=HX3.out.lt;have HX4:=hi_ (Blk.node1 HX3.out (.string ⟨name.toArray⟩));have HB4:=hi_ (HB3.out.setCell (p:=⟨w.heap.size,1,none⟩) (nl_) (.string ⟨name.toArray⟩));clear HX3 HB3;go_wp2_with fail
   clear k0 k1 k2 k3 k4 k5 k6 k7 k8 f0 f1 f2 f3 f4 f5 f6 f7 f8 hlX;generalize World.setCell w3 ⟨w.heap.size,1,none⟩ (.string ⟨name.toArray⟩)=w4 at *
   go_loopw [32] (fun v32 wr=>∃(i:Nat) (bo:Option Addr) (bcap:Nat),v32=.int .i64 (i:Nat)/\i<=l.length/\Hid (Below w.heap.size w wr)/\Hid (Blk w.heap.size #[.int .i64 2,.string ⟨name.toArray⟩,.slice bo i bcap,.string ⟨#[]⟩,.int .i64 0,.int .i64 0,.int .i64 0,.int .i64 0,.int .i64 0] 126 wr)/\Hid (wr.ownsRow w.heap.size 142 2 (.slice bo i bcap) i (((l.take i).map hm_).flatMap ai_)))
    (fun v32 _=>l.length-(Go.RowKit.intOf v32).toNat)
   case atStart=>
    exact⟨0,none,0,rfl,Nat.zero_le _,HB4,HX4,hi_ ⟨rfl,Or.inl ⟨rfl,rfl⟩⟩⟩
   case round=>
    obtain⟨i,bo,bcap,rfl,hi,HB,HX,HO⟩:=hrel
    rcases Nat.lt_or_ge i l.length with hlt|hge
    ·obtain⟨g0,cap',hv,hgl⟩:=((HAv.out).form).resolve_left (fun h=>by have:=h.2;rw[this]at hlt;simp at hlt)
     injection hv with e1 _ e3
     subst e1 e3;have hA2:aw_ wr (.slice (some ⟨g0,0,none⟩) l.length vcap) l:=own_below HAv.out HB.out;have hc0:=(ac_.cell aq_ hA2 hlt (k:=0) (by omega)).1;have hc1:=(ac_.cell aq_ hA2 hlt (k:=1) (by omega)).1;have HTk:Hid (((l.take (i+1)).map hm_).flatMap ai_=((l.take i).map hm_).flatMap ai_++ai_ (hm_ l[i])):=hi_ (by
      rw[List.take_add_one,List.getElem?_eq_getElem hlt,List.map_append,List.flatMap_append];simp)
     have hsh:=HLs.out l[i] (List.getElem_mem hlt);generalize l[i]=a at *;obtain⟨nm,vl⟩:=a;have k0:wr.cell? ⟨g0,i*2,none⟩=some (.string ⟨nm.toArray⟩):=hc0;have k1:wr.cell? ⟨g0,i*2+1,none⟩=some (.string ⟨vl.toArray⟩):=hc1;have hii:(i:Int)<(l.length:Int):=by omega
     have hsh2:vl.length<=1000:=hsh.2;clear hc0 hc1 hA2 hsh;go_upto_region 11 with fail
     have HE0:=hi_ (Blk.new wr #[.string ⟨nm.toArray⟩,.string ⟨vl.toArray⟩] 142);have hbE:Below wr.heap.size wr (wr.alloc (.cells #[.string ⟨nm.toArray⟩,.string ⟨vl.toArray⟩] 142)):=(Below.refl _ wr).alloc (nl_) _;have HXE:=hi_ (HX.out.below hbE);have HOE:=hi_ (own_below HO.out hbE);have HBE:=bt_ HB hbE;clear hbE k0 k1;generalize hEE:wr.heap.size=E at *;generalize wr.alloc (.cells #[.string ⟨nm.toArray⟩,.string ⟨vl.toArray⟩] 142)=wE at *;have hcE:=ad_ HE0.out;have m0:wE.cell? ⟨E,0,none⟩=some (.string ⟨nm.toArray⟩):=hcE.1 0;have m1:wE.cell? ⟨E,1,none⟩=some (.string ⟨vl.toArray⟩):=hcE.1 1;obtain⟨⟨k0,k1,k2,k3,k4,k5,k6,k7,k8⟩,_⟩:=bZ_ HXE.out;have hlE:=HE0.out.lt;have hlX:=HXE.out.lt;have HlE:=hi_ hlE;have HlX:=hi_ hlX;have HM0:=hi_ m0;have HK2:=hi_ k2
     have HNo:=hi_ (ak_ HOE.out HXE.out (by decide));clear k0 k1 k3 k4 k5 k6 k7 k8 hcE;obtain⟨i0,hi0,hz0,hz1,hz2⟩:=info_parts lI_;have HBd:=hi_ (Below.refl wE.heap.size wE).drew
     go_region_law
       (first
        | (go_simp
           go_at_call 104
           refine(QR.out vl hsh2 _ (HBE.out.trans (HBd.out.mono HBE.out.size))).mono ?_;rintro e w6 ⟨rfl,b6⟩;have HB6:=bt_ HBd b6;have hs6:=HB6.out.size;have hlE6:E<w6.heap.size:=Nat.lt_of_lt_of_le HlE.out hs6;have hlX6:w.heap.size<w6.heap.size:=Nat.lt_of_lt_of_le HlX.out hs6;have e60:=(HB6.out.cell (p:=⟨E,0,none⟩) HlE.out).trans HM0.out;have e62:=(HB6.out.cell (p:=⟨w.heap.size,2,none⟩) HlX.out).trans HK2.out;clear b6 hs6
           go_simp)
        | (with_reducible refine bk_ (w6.alloc (.cells #[.string ⟨nm.toArray⟩, .string ⟨(U.rep vl).toArray⟩] 142)) ?_
           refine step_append_lies _ (by rfl) _ _ 124 (by rfl) w.heap.size 142 i0 _ 2 32 Tryz.underlying124 hi0 hz0 hz1 hz2 rfl (by omega) (.slice bo i bcap) i (((l.take i).map hm_).flatMap ai_) (by rfl) (World.ownsRow.alloc (own_below HOE.out HB6.out) _) ⟨w6.heap.size,0,none⟩ 1 1 [.string ⟨nm.toArray⟩,.string ⟨(U.rep vl).toArray⟩] (by rfl) (by rfl) (World.news_of_block (cs:=#[.string ⟨nm.toArray⟩,.string ⟨(U.rep vl).toArray⟩]) (heap_alloc_new w6 (.cells #[.string ⟨nm.toArray⟩,.string ⟨(U.rep vl).toArray⟩] 142))) (by simp[Value.oneCell']) (by omega) (by unfold maxLen;omega) (by omega) (by have:=HB6.out.size;have:=HBE.out.size;simp<;>omega) (w6.heap.size+1) (by simp) ?_;intro gg cap2 w7 hown7 hgrow hat hlt7
           have hbk:Blk w.heap.size #[.int .i64 2,.string ⟨name.toArray⟩,.slice bo i bcap,.string ⟨#[]⟩,.int .i64 0,.int .i64 0,.int .i64 0,.int .i64 0,.int .i64 0] 126 w7:=(hgrow.block w.heap.size (by have:=HB6.out.size;have:=HlX.out;simp<;>omega) (fun h=>HNo.out h.symm)).trans ((HXE.out.below HB6.out).alloc _);obtain⟨⟨_,_,e72,_⟩,⟨_,_,g72,_⟩⟩:=bZ_ hbk;have hltb:=hbk.lt))
     all_goals (
      have hs6:=HB6.out.size;have hsE:=HBE.out.size;have HB7:=hi_ (((HBE.out.trans (HB6.out.mono hsE)).alloc (by omega) _).grown hgrow (by simp;omega) (fun k e=>(HOE.out.lt k e).1));have HX8:=hi_ (Blk.node2 hbk (.slice (some ⟨gg,0,none⟩) (i+1) cap2));have HB8:=hi_ (HB7.out.setCell (p:=⟨w.heap.size,2,none⟩) (nl_) (.slice (some ⟨gg,0,none⟩) (i+1) cap2));have HO8:=hi_ (bi_ hown7 hbk (by decide) 2 (.slice (some ⟨gg,0,none⟩) (i+1) cap2));have HO9:Hid (World.ownsRow (w7.setCell ⟨w.heap.size,2,none⟩ (.slice (some ⟨gg,0,none⟩) (i+1) cap2)) w.heap.size 142 2 (.slice (some ⟨gg,0,none⟩) (i+1) cap2) (i+1) (((l.take (i+1)).map hm_).flatMap ai_)):=hi_ (by rw[HTk.out];exact HO8.out);clear HO8 HB7 hown7 hgrow hat hbk;go_wp2_with fail
      go_roundw
      case rel=>exact⟨i+1,some ⟨gg,0,none⟩,cap2,by go_num,by omega,HB8,HX8,HO9⟩
      case measure=>simp[Go.RowKit.intOf];omega)
    ·have hie:i=l.length:=by omega
     subst hie;have hnot:¬((l.length:Nat):Int)<((l.length:Nat):Int):=by omega
     have hxl:x.attrs.length=l.length:=by rw[HXe.out];simp
     have HXt:Hid (Blk w.heap.size #[.int .i64 x.kind,.string ⟨x.name.toArray⟩,.slice bo x.attrs.length bcap,.string ⟨x.data.toArray⟩,.int .i64 0,.int .i64 0,.int .i64 0,.int .i64 0,.int .i64 0] 126 wr):=hi_ (by
      rw[hxl,HXe.out];exact HX.out)
     have HAtt:Hid (aw_ wr (.slice bo x.attrs.length bcap) x.attrs):=hi_ (by
      have h1:=HO.out;rw[List.take_length]at h1;have e9:x.attrs=l.map hm_:=by rw[HXe.out]
      show World.ownsRow _ 0 _ 2 (.slice bo x.attrs.length bcap) x.attrs.length (x.attrs.flatMap ai_);rw[hxl,e9];exact b8_ h1 (Nat.zero_le _))
     have hxa:x.attrs.length<=64:=by omega
     have hxd:x.data.length<=3000:=by rw[HXe.out];simp
     have wa:decide ((64:Int)<(x.attrs.length:Int))=false:=decide_eq_false (by omega);have wa2:(x.attrs.length:Int)<=64:=by omega
     have HSh:Hid (∀a,a∈x.attrs->a.2.length<=1000000):=hi_ (by
      rw[HXe.out];intro a ha;obtain⟨b,hb,e⟩:=List.mem_map.1 ha;rw[<-e];have h1:=(HLs.out b hb).2;have h2:=fB_ b.2;show(U.rep b.2).length<=_
      omega)
     have HBt:=HB;clear hxl HX HO HB HLs QR HB4 HX4;go_upto_region 16 with fail
     generalize hao:bo=ao at *;generalize hac:bcap=acap at *;clear hao hac;generalize wr=WX at *;obtain⟨⟨a0,a1,a2,a3,a4,a5,a6,a7,a8⟩,_⟩:=bZ_ HXt.out;have hlA:=HXt.out.lt;have HXl:=hi_ (fun W (hb:Below WX.heap.size WX W)=>bZ_ (HXt.out.below hb));have hlA2:=hi_ hlA;have QL2:=hi_ (QL.out WX HBt.out);go_wp2_with fail
     refine QL2.out.mono ?_;rintro e w5 ⟨rfl,hb5⟩;obtain⟨⟨b0,b1,b2,b3,b4,b5,b6,b7,b8⟩,_⟩:=HXl.out w5 hb5;have hlB:=Nat.lt_of_lt_of_le hlA2.out hb5.size;have QLo:Hid (Calls Tryz.prog 108 #[.string ⟨x.data.toArray⟩] w5 fun e w'=>e=.returned (.bool false)/\w5=w'):=hi_ (by
      have h:=N.long_ x.data w5
      rwa [decide_eq_false (by omega)]at h)
     have QCo:=hi_ (fa_ (.slice ao x.attrs.length acap) x.attrs w5 (own_below HAtt.out hb5) (by omega) HSh.out);have HB5:=hi_ hb5;clear a0 a1 a2 a3 a4 a5 a6 a7 a8 hlA QL2 hb5;go_wp2_with fail
     refine QLo.out.mono ?_;rintro e w5' ⟨rfl,rfl⟩;clear QLo;go_wp2_with fail
     refine QCo.out.mono ?_;rintro e w6 ⟨rfl,hb6⟩;have HB6:=bt_ HB5 hb6;obtain⟨⟨d0,d1,d2,d3,d4,d5,d6,d7,d8⟩,_⟩:=HXl.out w6 HB6.out;have hlC:=Nat.lt_of_lt_of_le hlA2.out HB6.out.size;have D0:=lc_ d0 hlC;have D1:=lc_ d1 hlC;have D2:=lc_ d2 hlC;have D3:=lc_ d3 hlC;have D4:=lc_ d4 hlC;have D5:=lc_ d5 hlC;have D6:=lc_ d6 hlC;have D7:=lc_ d7 hlC;have D8:=lc_ d8 hlC;clear b0 b1 b2 b3 b4 b5 b6 b7 b8 hlB QCo hb6;go_wp2_with fail
     refine aQ_ 4 (by kernel_rfl) (by kernel_rfl) ?_;simp only[List.take_succ_cons,List.take_zero,List.drop_succ_cons,List.drop_zero];repeat (go_big_quiet_step (fail))
     refine wq_ (fun dq=>?_);have HB7:=hi_ (HBt.out.trans ((HB6.out.trans (dq.h.mono HB6.out.size)).mono HBt.out.size));have HAt7:=hi_ (own_below (own_below HAtt.out HB6.out) dq.h);clear D0 D1 D2 D3 D4 D5 D6 D7 D8 d0 d1 d2 d3 d4 d5 d6 d7 d8 hlC HXl HB5 HB6;generalize dq.w=w4 at *;clear dq;have hTv:=(HT.out.below HB7.out).mem.v;have QA:=hi_ (add_ T (.slice (some ⟨T.g,0,none⟩) T.slots.length T.cap) x (.slice ao x.attrs.length acap) w4 hTv HFr.out HAt7.out (by omega) hlv hff);unfold fJ_ at QA;clear hTv;go_wp2_with fail
     refine QA.out.mono ?_;rintro e w8 ⟨g,cap,V',rfl,hf5,hm5,hg5,hv5⟩;have HAd:=hi_ (eX_ T (x:=x) (av:=.slice ao x.attrs.length acap) (g:=g) (cap:=cap) (V:=V') HFr.out);have HF5:=hi_ ((H.Frame.of (S:=T.foot) HB7.out).trans hf5 (fun b hb=>Or.inl (hc_ hb)));have hsz4:=HB7.out.size;have HGo4:=hi_ (fW_ (w:=w4) (r:=aL_ x (.slice ao x.attrs.length acap)) (cap:=cap) (show g=T.g\/w4.heap.size<=g from hg5.imp (fun e=>by have e:some T.g=some g:=e;injection e with e;exact e.symm) (fun e=>e)) hv5);have HGo5:=hi_ ((Goes.refl w T).trans hsz4 HGo4.out);have hFx:=HT.out.fits.add (x:=x) (by rw[HXe.out]) (by rw[HXe.out]) HKx.out (by rw[HXe.out]) HAd.out;have HL5:=hi_ (ha_ T (aL_ x (.slice ao x.attrs.length acap)) g cap V');go_wp2_with fail
     have hval:handle T.bs T.st T.next=hd T (iw_ m pos T.next) m.length:=by unfold hd;rw[cX_]
     refine bodyPost_ret (v:=.tuple #[.int .i64 (handle T.bs T.st T.next),.int .i64 0]) (by simp[results,Tryz.results58,go_sem]) rfl ?_;rw[HRs.out];exact⟨_,iw_ m pos T.next,by rw[hval],HF5.out,HGo5.out,⟨hm5,hFx⟩,fun i hi=>b6_ hi,by have:=HL5.out;simp;omega⟩
end A
end
end Go.Proofs.YtinphfpdfodkkaaGreatDoor
