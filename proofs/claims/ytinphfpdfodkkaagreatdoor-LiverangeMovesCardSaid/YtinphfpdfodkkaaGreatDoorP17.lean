/- Texts. -/
import Derived.Test.YtinphfpdfodkkaaGreatDoorP13
set_option linter.unusedVariables false
set_option linter.unusedSimpArgs false
set_option maxHeartbeats 8000000
set_option maxRecDepth 100000
namespace Go.Proofs.YtinphfpdfodkkaaGreatDoor
section
open Go.RowKit Go.Sort
namespace A
open H G R
def nU_(T:am_)(pos:Nat->Nat)(r:Rec):Value:=.agg (aB_ T pos r).toArray
structure ih_(w:World)(g o:Nat)(z k:Int):Prop where
 c0:w.cell? ⟨g,o,none⟩=some (.int .i64 z)
 c1:w.cell? ⟨g,o+1,none⟩=some (.int .i64 k)
 f0:w.frozen? ⟨g,o,none⟩=false
 f1:w.frozen? ⟨g,o+1,none⟩=false
 lt:g<w.heap.size
theorem mo_{w:World}{T:am_}{m:aa_}{pos:Nat->Nat}{g o:Nat}{z k:Int}{cs:Array Value}(hT:aj_ w T m pos)(h:ih_ w g o z k):AdjM w (w.alloc (.cells cs 73)) T m pos g o w.heap.size z k cs:=by
 have b:=(Below.refl w.heap.size w).alloc (nl_) (.cells cs 73);exact⟨b,hT.below b,Blk.new w _ _,(b.cell (p:=⟨g,o,none⟩) h.lt).trans h.c0,(b.cell (p:=⟨g,o+1,none⟩) h.lt).trans h.c1,(b.frozen (p:=⟨g,o,none⟩) h.lt).trans h.f0,(b.frozen (p:=⟨g,o+1,none⟩) h.lt).trans h.f1,Nat.lt_of_lt_of_le h.lt b.size⟩
theorem go_in{m:aa_}{r:Rec}{q:Nat×Nat}{h:Nat}(k2:r.kind=2)(e:r.node=some h)(hc:contains m h q.1=true):bc_ m r q=(r.target,r.index):=if_pos ⟨k2,h,e,hc⟩
theorem hb_{m:aa_}{r:Rec}{q:Nat×Nat}(hc:¬(r.kind=2/\∃h,r.node=some h/\contains m h q.1=true)) :
  bc_ m r q=if q.1≠r.target\/q.2<=r.index then q else if r.kind=1 then(q.1,q.2+1)else if r.kind=2 then(q.1,q.2-1)else if r.kind=4 then(if q.2<=r.index+r.count then(q.1,r.index) else(q.1,q.2-r.count+r.size))else q:=if_neg hc
theorem adjust_(T:am_)(m:aa_)(pos:Nat->Nat)(r:Rec)(q:Nat×Nat)(g o:Nat)(w:World)(hT:aj_ w T m pos)(hq:has m q.1=true)(ht:has m r.target=true)(hn:r.kind=2->∃h,r.node=some h/\has m h=true)
  (hqb:q.2<=1000000000) (hb:r.index<=1000000/\r.count<=1000000/\r.size<=1000000) (hP:ih_ w g o (hd T pos q.1) (q.2:Nat)) :
  Calls Tryz.prog 77 #[.pointer (some ⟨T.tb,0,none⟩),.pointer (some ⟨g,o,none⟩),nU_ T pos r] w fun e w'=>e=.returned (.tuple #[])/\en_ w w' g o (hd T pos q.1) (q.2:Nat) (hd T pos (bc_ m r q).1) ((bc_ m r q).2:Nat):=by
 obtain⟨b1,b2,b3⟩:=hb;have hA:=fun cs=>mo_ (cs:=cs) hT hP;have hF:=hT.fits;unfold nU_ aB_
 by_cases k2:r.kind=2
 ·obtain⟨h,e,hh⟩:=hn k2
  have hC:∀W,aj_ W T m pos->Calls Tryz.prog 40 #[.pointer (some ⟨T.tb,0,none⟩),.int .i64 (hdO T pos r.node),.int .i64 (hd T pos q.1)] W fun e w'=>e=.returned (.bool (contains m h q.1))/\Below W.heap.size W w':=fun W hW=>by rw[e];exact dN_ T m pos h q.1 W hW hh hq
  cases hc:contains m h q.1 with
  |true=>
   rw[hc]at hC;rw[go_in k2 e hc,k2];exact adj_in T m pos g o _ _ 0 _ _ _ _ _ _ _ _ _ _ hC w (hA _)
  |false=>
   rw[hc]at hC;rw[hb_ (by rintro⟨_,h2,e2,c2⟩;rw[e]at e2;injection e2 with e2;rw[<-e2,hc]at c2;cases c2),k2]
   by_cases h1:q.1=r.target
   ·by_cases h2:q.2<=r.index
    ·rw[if_pos (Or.inr h2),<-h1]
     exact nC_ T m pos g o _ _ 0 0 _ _ _ _ _ _ _ _ _ hC (by omega) w (hA _)
    ·rw[if_neg (fun h3=>h3.elim (fun h4=>h4 h1) h2),if_neg (by decide),if_pos rfl,<-h1]
     have:=nD_ T m pos g o (hd T pos q.1) (q.2:Nat) 0 0 (hdO T pos r.node) (hdO T pos r.prev) (hdO T pos r.next) (r.index:Nat) (r.count:Nat) (r.size:Nat) (.string ⟨r.name.toArray⟩) (.string ⟨r.old.toArray⟩) (.bool r.had) hC (by omega) (IntWalk.i64_in _ (by omega)) w (hA _);rw[show((q.2:Nat):Int)-1=((q.2-1:Nat):Int) by omega]at this;exact this
   ·rw[if_pos (Or.inl h1)]
    exact nB_ T m pos g o _ _ 0 _ _ _ _ _ _ _ _ _ _ hC (fun h3=>h1 (dB_ hF hq ht h3)) w (hA _)
 ·rw[hb_ (fun h3=>k2 h3.1)]
  have k2':¬((r.kind:Nat):Int)=2:=by omega
  by_cases h1:q.1=r.target
  ·by_cases h2:q.2<=r.index
   ·rw[if_pos (Or.inr h2),<-h1]
    exact ny_ T m pos g o _ _ _ 0 _ _ _ _ _ _ _ _ _ k2' (by omega) w (hA _)
   ·rw[if_neg (fun h3=>h3.elim (fun h4=>h4 h1) h2),<-h1]
    by_cases k1:r.kind=1
    ·rw[if_pos k1,k1]
     exact nE_ T m pos g o (hd T pos q.1) (q.2:Nat) 0 0 (hdO T pos r.node) (hdO T pos r.prev) (hdO T pos r.next) (r.index:Nat) (r.count:Nat) (r.size:Nat) (.string ⟨r.name.toArray⟩) (.string ⟨r.old.toArray⟩) (.bool r.had) (by omega) (IntWalk.i64_in _ (by omega)) w (hA _)
    ·rw[if_neg k1,if_neg k2]
     by_cases k4:r.kind=4
     ·rw[if_pos k4,k4]
      by_cases h4:q.2<=r.index+r.count
      ·rw[if_pos h4]
       exact nA_ T m pos g o (hd T pos q.1) (q.2:Nat) 0 0 (hdO T pos r.node) (hdO T pos r.prev) (hdO T pos r.next) (r.index:Nat) (r.count:Nat) (r.size:Nat) (.string ⟨r.name.toArray⟩) (.string ⟨r.old.toArray⟩) (.bool r.had) (by omega) (by omega) (IntWalk.i64_in _ (by omega)) w (hA _)
      ·rw[if_neg h4]
       have:=mp_ T m pos g o (hd T pos q.1) (q.2:Nat) 0 0 (hdO T pos r.node) (hdO T pos r.prev) (hdO T pos r.next) (r.index:Nat) (r.count:Nat) (r.size:Nat) (.string ⟨r.name.toArray⟩) (.string ⟨r.old.toArray⟩) (.bool r.had) (by omega) (by omega) (IntWalk.i64_in _ (by omega)) (IntWalk.i64_in _ (by omega)) (IntWalk.i64_in _ (by omega)) w (hA _);rw[show((q.2:Nat):Int)+(((r.size:Nat):Int)-((r.count:Nat):Int))=((q.2-r.count+r.size:Nat):Int) by omega]at this;exact this
     ·rw[if_neg k4]
      exact nz_ T m pos g o _ _ _ 0 _ _ _ _ _ _ _ _ _ (by omega) k2' (by omega) (by omega) w (hA _)
  ·rw[if_pos (Or.inl h1)]
   have h3:¬hd T pos q.1=hd T pos r.target:=fun h3=>h1 (dB_ hF hq ht h3);exact nx_ T m pos g o _ _ _ _ _ _ _ _ _ _ _ _ _ k2' h3 w (hA _)
end A
end
section
open Go.RowKit Go.Sort
namespace R
open H G A
theorem kG_{f:Nat->List Nat}{i q c:Nat}{l:List Nat}(hx:l[q]?=some c):i :: (l.take (q+1)).flatMap f=(i :: (l.take q).flatMap f)++f c:=by
 rw[List.take_add_one,hx,List.flatMap_append];simp
theorem walk_lt{m:aa_}(W:WF m)(h:Nat):h<m.length->∀i,i∈walk m h->i<m.length:=by
 refine W.down_ind (P:=fun h=>h<m.length->∀i,i∈walk m h->i<m.length) (fun h ih hh i hi=>?_) h;rw[W.walk_eq]at hi
 rcases List.mem_cons.1 hi with e|hi
 ·rw[e];exact hh
 ·obtain⟨c,hc,hi⟩:=List.mem_flatMap.1 hi
  exact ih c hc (W.kid h c hc).1 i hi
theorem i3_{m:aa_}(W:WF m){h:Nat}(hh:h<m.length):(walk m h).length<=m.length:=by
 have h1:(walk m h).length<=(List.range m.length).length:=List.Nodup.length_le_of_subset (A.WF.walk_nodup W h) (fun x hx=>List.mem_range.2 (walk_lt W h hh x hx))
 rwa [List.length_range]at h1
theorem mWalk(M:aF_)(w0:World)(h0:ab_ w0 M)(W:WF M.m):∀(n i:Nat) (w:World),Below w0.heap.size w0 w->aA_ M.m i<=n->i<M.nodes.length->Calls Tryz.prog 134 #[.pointer (some ⟨M.mb,0,none⟩),.int .i64 i] w fun e w'=>∃v,e=.returned v/\Below w.heap.size w w'/\b4_ w.heap.size w' v (walk M.m i):=by
 intro n
 induction n with
 |zero=>
  intro i w hb hn hi;rw[W.height_eq i]at hn;omega
 |succ n ih=>
 intro i w hb0 hn hi;have h:=h0.below hb0;have HM:=hi_ h;obtain⟨c0,l0,l1⟩:=h.top;have k5:=(h.cell hi).2.2.2.2.2.1;obtain⟨ao,cap,hv,hc⟩:=b4_.form (h.kidsRow hi);rw[hv]at k5;have n1:(i:Int)<(M.nodes.length:Int):=by omega
 have HB0:=hi_ hb0;have IH:=hi_ (fun(c:Nat) (hc:c∈(nd M.m i).kids) (W1:World) (hb:Below w.heap.size w W1)=>ih c W1 (hb0.trans (hb.mono hb0.size)) (by have:=W.height_kid hc;omega) (by rw[<-M.m_len];exact(W.kid i c hc).1));have HE:=hi_ (W.walk_eq i);have hfew:=h.few;have hwl:=i3_ W (h:=i) (by rw[M.m_len];exact hi);rw[M.m_len]at hwl;have hln:(nd M.m i).kids.length<=1000000:=by
  have h1:(nd M.m i).kids.length<=(List.range M.nodes.length).length:=List.Nodup.length_le_of_subset (W.nodup i) (fun x hx=>List.mem_range.2 (by rw[<-M.m_len];exact(W.kid i x hx).1));rw[List.length_range]at h1;omega
 have HWl:Hid (∀q,(i :: ((nd M.m i).kids.take q).flatMap (walk M.m)).length<=1000000):=hi_ (fun q=>by
  have h1:(i :: (nd M.m i).kids.flatMap (walk M.m)).length<=1000000:=by rw[<-W.walk_eq];omega
  have h2:((nd M.m i).kids.take q).flatMap (walk M.m)++((nd M.m i).kids.drop q).flatMap (walk M.m)=(nd M.m i).kids.flatMap (walk M.m):=by rw[<-List.flatMap_append,List.take_append_drop]
  have h3:=congrArg List.length h2;rw[List.length_append]at h3;simp only[List.length_cons]at h1 ⊢
  omega)
 have HKc:=hi_ (fun W1 (hb:Below w.heap.size w W1)=>(h.below hb).cell hi);obtain⟨wk,hwk⟩:∃wk,wk=walk M.m i:=⟨_,rfl⟩;rw[<-hwk]at HE ⊢;have HC:=hi_ (fun W1 (hb:Below w.heap.size w W1)=>b4_.form ((h.below hb).kidsRow hi));have HV:=hi_ hv;generalize hl:(nd M.m i).kids=l at *;generalize hlen:l.length=len at *;have HLen:=hi_ hlen;obtain⟨i0,hi0,hz0,hz1,hz2⟩:=info_parts c8_;clear ih h hn hi hv hc hl hlen hwk hwl hb0 h0
 go_enter Tryz.func134,Tryz.ntmps134
 go_wp2_with fail
 have HBl:=hi_ ((Below.refl w.heap.size w).alloc (nl_) (.cells #[.int .i64 i] 3));have HOl:Hid (b4_ w.heap.size (w.alloc (.cells #[.int .i64 i] 3)) (.slice (some ⟨w.heap.size,0,none⟩) [i].length 1) [i]):=hi_ (by
  have h1:=World.ownsRow_lit (e:=3) (base:=w.heap.size) (size:=1) w #[.int .i64 i] 1 (nl_) (by unfold maxLen;omega) (by simp);simpa[b4_,aE_]using h1)
 generalize w.alloc (.cells #[.int .i64 i] 3)=w2 at *;clear k5 c0 l0 l1
 go_loopw [5,6] (fun v5 v6 wr=>∃(q:Nat) (go:Option Addr) (gc:Nat),v5=.slice go (i :: (l.take q).flatMap (walk M.m)).length gc/\v6=.int .i64 (q:Nat)/\q<=len/\Hid (Below w.heap.size w wr)/\Hid (b4_ w.heap.size wr (.slice go (i :: (l.take q).flatMap (walk M.m)).length gc) (i :: (l.take q).flatMap (walk M.m)))) (fun _ v6 _=>len-(aN_ v6).toNat)
 case atStart=>exact⟨0,_,_,rfl,rfl,by omega,HBl,HOl⟩
 case round=>
  obtain⟨q,go,gc,rfl,rfl,hq0,HB,HO⟩:=hrel;obtain⟨c0,l0,l1⟩:=(HM.out.below HB.out).top;have k5:=(HKc.out wr HB.out).2.2.2.2.2.1;rw[HV.out]at k5;generalize hpre:i :: (l.take q).flatMap (walk M.m)=pre at *;have HPre:=hi_ hpre
  by_cases hq:q=len
  ·have HF:Hid (wk=pre):=hi_ (by rw[HE.out,<-hpre,hq,List.take_of_length_le (by rw[HLen.out];omega)])
   generalize hpl:pre.length=pl at *;clear hpl hpre;have hnl:¬((q:Int)<(len:Int)):=by omega
   clear hq;go_wp2_with fail
   go_ret
   exact⟨_,rfl,HB.out,by rw[HF.out];exact HO.out⟩
  ·have hil:q<l.length:=by rw[HLen.out];omega
   have hlt:(q:Int)<(len:Int):=by omega
   have hx:l[q]?=some l[q]:=List.getElem?_eq_getElem hil;obtain⟨ao2,cap2,hv2,hcs⟩:=HC.out wr HB.out;rw[HV.out]at hv2;obtain⟨g,hao,hg1,hcell⟩:=hcs _ _ hx;injection hv2 with e1 e2 e3
   subst e1;subst hao;have htk:=kG_ (f:=walk M.m) (i:=i) hx;rw[hpre]at htk;have Q3:=hi_ (IH.out _ (List.mem_of_getElem? hx) wr HB.out);have hwc:=W.walk_eq l[q];have HWq:=hi_ (HWl.out (q+1));rw[htk]at HWq;have HTk:=hi_ htk;generalize l[q]=c at *;have HWc:=hi_ hwc;have wq:IntKind.i64.wrap ((q:Int)+1)=(q:Int)+1:=IntWalk.i64_in _ (by omega);clear hx hil hq htk hwc hcs hpre e2 e3;go_wp2_with fail
   refine Q3.out.mono ?_;rintro e w3 ⟨v3,rfl,hb3,hown3⟩;have hb3':=HB.out.trans (hb3.mono HB.out.size);obtain⟨g3,cap3,hv3,hg3b,hg3l,hcap3⟩:=a1_ hown3 (by rw[HWc.out];simp);subst hv3;have HO3:=hi_ (own_below HO.out hb3);have hc3:=ae_ hown3;have hln3:=HWq.out;rw[List.length_append]at hln3;generalize hcl:(walk M.m c).length=cl at *;generalize hpl:pre.length=pl at *;have HCl:=hi_ hcl;have HPl:=hi_ hpl;have hcl0:0<cl:=by rw[<-hcl,HWc.out];simp
   have HB3:=hi_ hb3';have hsz3:=hb3'.size;clear hcl hpl hb3 hb3' Q3 HO HB hown3 k5;have HNw:Hid (∀j u,(aE_ (walk M.m c))[j]?=some u->w3.cell? ((⟨g3,0,none⟩:Addr).add j)=some u):=hi_ (fun j u hu=>by
    rw[ds_,Nat.zero_add];have hj:j<(aE_ (walk M.m c)).length:=by
     rcases Nat.lt_or_ge j (aE_ (walk M.m c)).length with h2|h2
     ·exact h2
     ·rw[List.getElem?_eq_none h2]at hu;cases hu
    rw[(hc3.2.2.2 j hj).1,hu])
   have HO3':Hid (w3.ownsRow w.heap.size 3 1 (.slice go pl gc) pl (aE_ pre)):=hi_ (by
    have h1:=HO3.out;unfold b4_ at h1;exact h1)
   clear hc3;go_wp2_with (at_builtin;refine wpList_append_lies _ rfl _ _ 39 rfl w.heap.size 3 i0 _ 1 8 Tryz.underlying39 hi0 hz0 hz1 hz2 rfl (by decide) (.slice go pl gc) pl (aE_ pre) rfl HO3'.out ⟨g3,0,none⟩ cl cap3 (aE_ (walk M.m c)) rfl ?c0 HNw.out (bj_ _) hcl0 ?c4 ?c5 ?c6 w3.heap.size rfl ?_)
   case c0=>unfold aE_;rw[List.length_map,HCl.out];omega
   case c4=>unfold maxLen;omega
   case c5=>omega
   case c6=>omega
   intro gg cap5 w5 hown5 hgrow hat5 hlt5;have HB5:=hi_ (HB3.out.grown hgrow hsz3 (fun k hk=>(HO3'.out.lt k hk).1));have HO5:Hid (b4_ w.heap.size w5 (.slice (some ⟨gg,0,none⟩) (pl+cl) cap5) (pre++walk M.m c)):=hi_ (by
    unfold b4_;have e1:aE_ (pre++walk M.m c)=aE_ pre++aE_ (walk M.m c):=by unfold aE_;rw[List.map_append]
    rw[List.length_append,HPl.out,HCl.out,e1];exact hown5)
   clear hown5 hgrow hat5 HO3 HO3' HNw;go_wp2_with fail
   go_roundw
   case rel=>
    have hln:(i :: (l.take (q+1)).flatMap (walk M.m)).length=pl+cl:=by rw[HTk.out,List.length_append,HPl.out,HCl.out]
    refine⟨q+1,some ⟨gg,0,none⟩,cap5,by rw[hln],by go_num,by omega,HB5,hi_ ?_⟩;rw[hln,HTk.out];exact HO5.out
   case measure=>simp[aN_];omega
end R
end
end Go.Proofs.YtinphfpdfodkkaaGreatDoor
