/- Texts. -/
import Derived.Test.YtinphfpdfodkkaaGreatDoorP04
import Derived.Test.YtinphfpdfodkkaaGreatDoorP02
set_option linter.unusedVariables false
set_option linter.unusedSimpArgs false
set_option maxHeartbeats 8000000
set_option maxRecDepth 100000
namespace Go.Proofs.YtinphfpdfodkkaaGreatDoor
section
open Go.RowKit Go.Sort
namespace A
open H G
def gm_(m:aa_):Prop:=∀i,(nd m i).attrs.length<=100000/\(nd m i).data.length<=1000000
theorem ij_{m:aa_}(W:WF m){a:Nat×Nat}{y p:Nat}(hp:(nd m y).parent=some p):bl_ m a (depth m y) y=if p=a.1 then(if a.2<=(nd m p).kids.idxOf y then -1 else 1)else bl_ m a (depth m p) p:=by
 rw[W.depth_step hp,bl_,hp]
theorem ik_{m:aa_}(W:WF m){a:Nat×Nat}(h:Nat)(hc:contains m a.1 h=true)(hne:h≠a.1):bl_ m a 128 h=bl_ m a (depth m h) h:=by
 rw[cL_ W h [] 128 hc hne (W.depth_le h),cL_ W h [] _ hc hne (nl_)]
theorem kF_(T:am_)(m:aa_)(pos:Nat->Nat)(a:Nat×Nat)(h:Nat)(w:World)(hT:aj_ w T m pos)(hS:gm_ m)(hh:has m h=true)(ha:has m a.1=true)(hc:contains m a.1 h=true)(hne:h≠a.1)(hk:a.2<=1000000) :
  Calls Tryz.prog 41 #[.pointer (some ⟨T.tb,0,none⟩),bI_ (hd T pos a.1) (a.2:Nat),.int .i64 (hd T pos h)] w fun e w'=>e=.returned (.int .i64 (bl_ m a 128 h))/\Below w.heap.size w w':=by
 have hF:=hT.fits;have hfew:=hT.mem.few;have HT:=hi_ hT;have hB1:=(Below.refl w.heap.size w).alloc (nl_) (.cells #[.int .i64 (hd T pos a.1),.int .i64 a.2] 31);have HB1:=hi_ hB1;have HP1:=hi_ (Blk.new w #[.int .i64 (hd T pos a.1),.int .i64 a.2] 31);have QN:=hi_ (fun(y:Nat) (hy:has m y=true) W (hW:Below w.heap.size w W)=>node_ T m pos y W (hT.below hW) hy (hS y).1);have QI:=hi_ (fun(y p:Nat) (hy:has m y=true) (hp:(nd m y).parent=some p) W (hb:Below w.heap.size w W)=>dY_ T m pos y p W (hT.below hb) hy hp);have HR:=hi_ (ik_ hF.wf h hc hne);have HH0:=hi_ hh;have HC0:=hi_ (And.intro hc hne);have HA:=hi_ ha;unfold bI_;generalize bl_ m a 128 h=R at *;clear hT hS hB1 hc hne hh ha
 go_enter Tryz.func41,Tryz.ntmps41
 go_wp2_with fail
 go_loopw [2] (fun v2 wr=>∃y:Nat,v2=.int .i64 (hd T pos y)/\Hid (has m y=true)/\Hid (contains m a.1 y=true/\y≠a.1)/\Hid (R=bl_ m a (depth m y) y)/\Hid (Below w.heap.size w wr)/\Hid (Blk w.heap.size #[.int .i64 (hd T pos a.1),.int .i64 a.2] 31 wr)) (fun v2 _=>deep T m pos (aN_ v2))
 case atStart=>exact⟨h,rfl,HH0,HC0,HR,HB1,HP1⟩
 case round=>
  obtain⟨y,rfl,HH,HC,HE,HU,HP⟩:=hrel;clear HB1 HP1 HH0 HC0 HR;obtain⟨p,hp⟩:∃p,(nd m y).parent=some p:=by
   cases hp:(nd m y).parent with
   |some p=>exact⟨p,rfl⟩
   |none=>
    have h1:=HC.out.1;rw[hF.wf.contains_root hp]at h1;exact absurd (beq_iff_eq.1 h1).symm HC.out.2
  have hph:=bC_ hF HH.out hp;have HPH:=hi_ hph;have hE:=HE.out;rw[ij_ hF.wf hp]at hE;have Q1:=hi_ (QN.out y HH.out wr HU.out);have Q2:=hi_ (QI.out y p HH.out hp);have hD:=(ce_ HT.out HU.out HH.out).2.2.2.1;rw[hp]at hD;have HD:=hi_ hD;have hix:(nd m p).kids.idxOf y<=1000000:=Nat.le_trans (List.idxOf_le_length) (cH_ hfew hF hph);have hpv:(T.sl (pos y)).parent=hd T pos p:=by rw[hF.parent y HH.out,hp];rfl
  unfold eb_ at Q1;rw[hpv]at Q1;have HCn:Hid (p≠a.1->contains m a.1 p=true):=hi_ (fun hpa=>by
   have h1:=HC.out.1;rw[hF.wf.contains_step hp]at h1
   rcases Bool.or_eq_true_iff.1 h1 with h1|h1
   ·exact absurd (beq_iff_eq.1 h1).symm HC.out.2
   ·exact h1)
  have HEq:Hid (hd T pos p=hd T pos a.1->p=a.1):=hi_ (fun h=>dB_ hF hph HA.out h);generalize (nd m p).kids.idxOf y=ix at *;generalize T.sl (pos y)=r at *;generalize (nd m y).attrs=al at *;have HE2:=hi_ hE;obtain⟨zy,hzy⟩:∃z,z=hdO T pos (some y):=⟨_,rfl⟩;rw[show hd T pos y=zy from hzy.symm]at Q1 Q2 ⊢;rw[<-hzy]at HD;obtain⟨zp,hzp⟩:∃z,z=hd T pos p:=⟨_,rfl⟩;rw[<-hzp]at Q1 HEq;have HZP:=hi_ hzp;clear hE hD hpv hp hzy hzp hph;obtain⟨hcc,hff⟩:=ad_ HP.out;go_wp2_with fail
  refine Q1.out.mono ?_;rintro e w2 ⟨v,rfl,hb2,hr2⟩;obtain⟨bo,bcap,rfl⟩:=aw_.slice (dw_ hr2);have HB2:=bt_ HU hb2;have HP2:=hi_ (HP.out.below hb2);obtain⟨hc,hf⟩:=ad_ HP2.out;have p0:w2.cell? ⟨w.heap.size,0,none⟩=some (.int .i64 (hd T pos a.1)):=hc 0;have p1:w2.cell? ⟨w.heap.size,1,none⟩=some (.int .i64 a.2):=hc 1;have hlt2:=HP2.out.lt;clear hb2 hr2 Q1 hc hf hcc hff
  by_cases e:zp=hd T pos a.1
  ·have e1:(zp==hd T pos a.1)=true:=by rw[e];exact beq_self_eq_true _
   have HF:Hid (R=if a.2<=ix then -1 else 1):=hi_ (by rw[HE2.out,if_pos (HEq.out e)]);have HE3:=hi_ e;clear e;have HB3:=hi_ (HB2.out.alloc HB2.out.size (.cells #[.int .i64 r.kind,.string ⟨r.name.toArray⟩,.slice bo al.length bcap,.string ⟨r.data.toArray⟩,.int .i64 zp,.int .i64 r.first,.int .i64 r.last,.int .i64 r.prev,.int .i64 r.next] 126));have HP3:=hi_ (HP2.out.alloc (.cells #[.int .i64 r.kind,.string ⟨r.name.toArray⟩,.slice bo al.length bcap,.string ⟨r.data.toArray⟩,.int .i64 zp,.int .i64 r.first,.int .i64 r.last,.int .i64 r.prev,.int .i64 r.next] 126));go_wp2_with fail
   generalize w2.alloc (.cells #[.int .i64 r.kind,.string ⟨r.name.toArray⟩,.slice bo al.length bcap,.string ⟨r.data.toArray⟩,.int .i64 zp,.int .i64 r.first,.int .i64 r.last,.int .i64 r.prev,.int .i64 r.next] 126)=w3 at *;have q1:w3.cell? ⟨w.heap.size,1,none⟩=some (.int .i64 a.2):=(ad_ HP3.out).1 1;have hlt3:=HP3.out.lt;have D1:=lc_ q1 hlt3;refine af_ (by kernel_rfl) (by kernel_rfl) ?_;repeat (go_big_quiet_step ((go_at_call 87;exact Calls.later (Q2.out _ (HB3.out.trans ((Later.h _).mono HB3.out.size))))))
   refine wq_ (fun dq=>?_);have HB4:=bt_ HB3 dq.h;clear D1 q1 p0 p1
   by_cases g:a.2<=ix
   ·have g1:((a.2:Nat):Int)<=(ix:Nat):=by omega
    go_wp2_with fail
    go_ret
    exact⟨ay_ (a:=-1) (by rw[HF.out,if_pos g]),HB4.out⟩
   ·have g1:¬((a.2:Nat):Int)<=(ix:Nat):=by omega
    go_wp2_with fail
    go_ret
    exact⟨ay_ (a:=1) (by rw[HF.out,if_neg g]),HB4.out⟩
  ·have e1:(zp==hd T pos a.1)=false:=bn_ e
   have hpa:p≠a.1:=fun h2=>e (by rw[HZP.out,h2]);have HF:Hid (R=bl_ m a (depth m p) p):=hi_ (by rw[HE2.out,if_neg hpa]);have HC3:=hi_ (And.intro (HCn.out hpa) hpa);clear hpa;go_wp2_with fail
   refine⟨⟨p,congrArg (Value.int IntKind.i64) HZP.out,HPH,HC3,HF,hi_ (HB2.out.alloc HB2.out.size _),hi_ (HP2.out.alloc _)⟩,?_⟩;show deep T m pos zp<deep T m pos zy;rw[HZP.out];exact HD.out
def n9_(T:am_)(m:aa_)(pos:Nat->Nat)(z k o:Int):Prop:=
 (∃i,has m i=true/\z=hd T pos i/\o=if mS_ m i k=true then 0 else 2)\/(T.ptr 0 z=none/\o=6/\-9223372036854775808<=z/\z<=9223372036854775807)
theorem jN_(T:am_)(m:aa_)(pos:Nat->Nat)(z k o:Int)(w:World)(hT:aj_ w T m pos)(hS:gm_ m)(hp:n9_ T m pos z k o) :
  Calls Tryz.prog 38 #[.pointer (some ⟨T.tb,0,none⟩),bI_ z k] w fun e w'=>e=.returned (.int .i64 o)/\Below w.heap.size w w':=by
 rcases hp with⟨i,hi,rfl,rfl⟩|⟨h1,rfl,h2,h3⟩
 ·exact kv_ T m pos i k w hT hi (hS i).1 (hS i).2
 ·exact kw_ T z k w hT.mem h2 h3 h1
theorem a3_{w:World}{g:Nat}{t:TypeId}{a0 a1:Value}(h:Blk g #[a0,a1] t w):w.cell? ⟨g,0,none⟩=some a0/\w.cell? ⟨g,1,none⟩=some a1:=⟨(ad_ h).1 0,(ad_ h).1 1⟩
def c3_(m:aa_)(a b:Nat×Nat):Int×Int:=if top m a.1≠top m b.1 then(0,6) else(lcmp m a b,0)
theorem ju_(T:am_)(m:aa_)(pos:Nat->Nat)(a b:Nat×Nat)(w:World)(hT:aj_ w T m pos)(hS:gm_ m)(ha:has m a.1=true)(hb:has m b.1=true)(oa:mS_ m a.1 (a.2:Nat)=true)(ob:mS_ m b.1 (b.2:Nat)=true)(ka:a.2<=1000000)(kb:b.2<=1000000) :
  Calls Tryz.prog 13 #[.pointer (some ⟨T.tb,0,none⟩),bI_ (hd T pos a.1) (a.2:Nat),bI_ (hd T pos b.1) (b.2:Nat)] w fun e w'=>e=.returned (.tuple #[.int .i64 (c3_ m a b).1,.int .i64 (c3_ m a b).2])/\Below w.heap.size w w':=by
 have hF:=hT.fits;have pa:n9_ T m pos (hd T pos a.1) (a.2:Nat) 0:=Or.inl ⟨a.1,ha,rfl,by rw[if_pos oa]⟩;have pb:n9_ T m pos (hd T pos b.1) (b.2:Nat) 0:=Or.inl ⟨b.1,hb,rfl,by rw[if_pos ob]⟩;have hB1:=((Below.refl w.heap.size w).alloc (nl_) (.cells #[.int .i64 (hd T pos a.1),.int .i64 a.2] 31)).alloc (by simp) (.cells #[.int .i64 (hd T pos b.1),.int .i64 b.2] 31);have Q1:=hi_ (fun W (hW:Below w.heap.size w W)=>jN_ T m pos _ _ _ W (hT.below hW) hS pa);have Q2:=hi_ (fun W (hW:Below w.heap.size w W)=>jN_ T m pos _ _ _ W (hT.below hW) hS pb);have Q3:=hi_ (fun W (hW:Below w.heap.size w W)=>top_ T m pos a.1 W (hT.below hW) ha);have Q4:=hi_ (fun W (hW:Below w.heap.size w W)=>top_ T m pos b.1 W (hT.below hW) hb)
 have Q5:=hi_ (fun W (hW:Below w.heap.size w W)=>dN_ T m pos a.1 b.1 W (hT.below hW) ha hb);have Q6:=hi_ (fun W (hW:Below w.heap.size w W)=>dN_ T m pos b.1 a.1 W (hT.below hW) hb ha);have Q7:=hi_ (fun W (hW:Below w.heap.size w W) (hc:contains m a.1 b.1=true) (hne:b.1≠a.1)=>kF_ T m pos a b.1 W (hT.below hW) hS hb ha hc hne ka);have Q8:=hi_ (fun W (hW:Below w.heap.size w W) (hc:contains m b.1 a.1=true) (hne:a.1≠b.1)=>kF_ T m pos b a.1 W (hT.below hW) hS ha hb hc hne kb);have Q9:=hi_ (fun W (hW:Below w.heap.size w W) (ht:top m a.1=top m b.1)=>no_ T m pos a.1 b.1 W (hT.below hW) ha hb ht);have HEt:=hi_ (fun(h:hd T pos (top m a.1)=hd T pos (top m b.1))=>dB_ hF (kN_ hF _ ha) (kN_ hF _ hb) h);have HEt2:=hi_ (fun(h:top m a.1=top m b.1)=>congrArg (hd T pos) h)
 have HEn:=hi_ (fun(h:hd T pos a.1=hd T pos b.1)=>dB_ hF ha hb h);have HEn2:=hi_ (fun(h:a.1=b.1)=>congrArg (hd T pos) h);have HX0:=hi_ ((Blk.new w #[.int .i64 (hd T pos a.1),.int .i64 a.2] 31).alloc (.cells #[.int .i64 (hd T pos b.1),.int .i64 b.2] 31));have hb1:=Blk.new (w.alloc (.cells #[.int .i64 (hd T pos a.1),.int .i64 a.2] 31)) #[.int .i64 (hd T pos b.1),.int .i64 b.2] 31;rw[show(w.alloc (.cells #[.int .i64 (hd T pos a.1),.int .i64 a.2] 31)).heap.size=w.heap.size+1 by simp]at hb1;have HX1:=hi_ hb1;have HR1:Hid (top m a.1≠top m b.1->c3_ m a b=(0,6)):=hi_ (fun h=>if_pos h);have HR2:Hid (top m a.1=top m b.1->c3_ m a b=(lcmp m a b,0)):=hi_ (fun h=>if_neg (fun h2=>h2 h))
 have HR3:Hid (a.1=b.1->lcmp m a b=sgn (a.2:Nat) (b.2:Nat)):=hi_ (fun h=>by
  unfold lcmp sgn;rw[if_pos h];simp only[Int.ofNat_lt])
 have HR4:Hid (a.1≠b.1->contains m a.1 b.1=true->lcmp m a b=bl_ m a 128 b.1):=hi_ (fun h h2=>by unfold lcmp;rw[if_neg h,if_pos h2]);have HR5:Hid (a.1≠b.1->contains m a.1 b.1=false->contains m b.1 a.1=true->lcmp m a b=- bl_ m b 128 a.1):=hi_ (fun h h2 h3=>by unfold lcmp;rw[if_neg h,if_neg (by rw[h2];exact Bool.false_ne_true),if_pos h3]);have HR6:Hid (a.1≠b.1->contains m a.1 b.1=false->contains m b.1 a.1=false->lcmp m a b=cmpL (ba_ m a.1) (ba_ m b.1)):=hi_ (fun h h2 h3=>by unfold lcmp;rw[if_neg h,if_neg (by rw[h2];exact Bool.false_ne_true),if_neg (by rw[h3];exact Bool.false_ne_true)]);have HW:Hid (-1<=bl_ m b 128 a.1/\bl_ m b 128 a.1<=1\/¬(a.1≠b.1/\contains m b.1 a.1=true)):=hi_ (by
  by_cases hq:a.1≠b.1/\contains m b.1 a.1=true
  ·refine Or.inl ?_
   rw[cL_ hF.wf a.1 [] 128 hq.2 hq.1 (hF.wf.depth_le _)];have:=e1_ (bG_ m b) ((ba_ m a.1).map odd++[]);omega
  ·exact Or.inr hq)
 generalize c3_ m a b=res at *;generalize lcmp m a b=lc at *;generalize bl_ m a 128 b.1=wa at *;generalize bl_ m b 128 a.1=wb at *;generalize cmpL (ba_ m a.1) (ba_ m b.1)=cl at *;generalize contains m a.1 b.1=cab at *;generalize contains m b.1 a.1=cba at *;generalize top m a.1=ta at *;generalize top m b.1=tb' at *;unfold bI_ at *;generalize hd T pos a.1=za at *;generalize hd T pos b.1=zb at *;generalize hd T pos ta=zta at *;generalize hd T pos tb'=ztb at *;generalize a.1=ai at *;generalize b.1=bi at *;generalize ha2:((a.2:Nat):Int)=ak at *;generalize hb2':((b.2:Nat):Int)=bk at *;obtain⟨rc,re⟩:=res;have QS:=hi_ (fun W=>n6_ ak bk W);generalize sgn ak bk=sg at *;clear hT hS hF pa pb oa ob ha hb hb1 ka kb ha2 hb2'
 go_enter Tryz.func13,Tryz.ntmps13
 go_wp2_with fail
 refine(Q1.out _ hB1).mono ?_;rintro e w2 ⟨rfl,hb⟩;have HB2:=hi_ (hB1.trans (hb.mono hB1.size));have HY0:=hi_ (HX0.out.below hb);have HY1:=hi_ (HX1.out.below hb);clear hb hB1 HX0 HX1;obtain⟨a0,a1⟩:=a3_ HY0.out;obtain⟨b0,b1⟩:=a3_ HY1.out;go_wp2_with fail
 refine(Q2.out _ HB2.out).mono ?_;rintro e w3 ⟨rfl,hb⟩;have HB3:=bt_ HB2 hb;have HX0:=hi_ (HY0.out.below hb);have HX1:=hi_ (HY1.out.below hb);clear hb HY0 HY1 a0 a1 b0 b1;obtain⟨a0,a1⟩:=a3_ HX0.out;obtain⟨b0,b1⟩:=a3_ HX1.out;have D1:=fun d:Later w3.heap.size w3=>Later.cell a0 HX0.out.lt d;have D2:=fun d:Later w3.heap.size w3=>Later.cell b0 HX1.out.lt d;go_wp2_with fail
 refine af_ (by kernel_rfl) (by kernel_rfl) ?_;repeat (go_big_quiet_step (first|(go_at_call_of 30 (Value.int .i64 za);exact Calls.later (Q3.out _ (HB3.out.trans ((Later.h _).mono HB3.out.size))))|(go_at_call_of 30 (Value.int .i64 zb);exact Calls.later (Q4.out _ (HB3.out.trans ((Later.h _).mono HB3.out.size))))))
 refine wq_ (fun dq=>?_);have HB4:=bt_ HB3 dq.h;have HY0:=hi_ (HX0.out.below dq.h);have HY1:=hi_ (HX1.out.below dq.h);clear D1 D2 a0 a1 b0 b1 HX0 HX1 HB3;generalize dq.w=w4 at *;clear dq;obtain⟨a0,a1⟩:=a3_ HY0.out;obtain⟨b0,b1⟩:=a3_ HY1.out
 by_cases ht:zta=ztb
 ·have t1:(zta==ztb)=true:=by rw[ht];exact beq_self_eq_true _
  have HT1:=hi_ (HEt.out ht);have HRr:=hi_ (HR2.out HT1.out)
  by_cases hn:za=zb
  ·have n1:(za==zb)=true:=by rw[hn];exact beq_self_eq_true _
   have HL:=hi_ (HR3.out (HEn.out hn));clear hn ht;go_wp2_with fail
   refine(QS.out _).mono ?_;rintro e w5 ⟨rfl,rfl⟩;go_wp2_with fail
   refine bodyPost_ret (v:=.tuple #[.int .i64 sg,.int .i64 0]) (by simp[results,Tryz.results13,go_sem]) rfl ⟨?_,HB4.out⟩;injection HRr.out with h1 h2
   rw[h1,h2,HL.out]
  ·have n1:(za==zb)=false:=bn_ hn
   have HNe:=hi_ (show ai≠bi from fun h=>hn (HEn2.out h));clear hn ht;go_wp2_with fail
   refine(Q5.out _ HB4.out).mono ?_;rintro e w5 ⟨rfl,hb⟩;have HB5:=bt_ HB4 hb;have HX0:=hi_ (HY0.out.below hb);have HX1:=hi_ (HY1.out.below hb);clear hb a0 a1 b0 b1 HY0 HY1;obtain⟨a0,a1⟩:=a3_ HX0.out;obtain⟨b0,b1⟩:=a3_ HX1.out
   cases cab with
   |true=>
    have HL:=hi_ (HR4.out HNe.out rfl);have QW:=hi_ (Q7.out _ HB5.out rfl (fun h=>HNe.out h.symm));go_wp2_with fail
    refine QW.out.mono ?_;rintro e w6 ⟨rfl,hb⟩;have HB6:=bt_ HB5 hb;clear hb;go_wp2_with fail
    refine bodyPost_ret (v:=.tuple #[.int .i64 wa,.int .i64 0]) (by simp[results,Tryz.results13,go_sem]) rfl ⟨?_,HB6.out⟩;injection HRr.out with h1 h2
    rw[h1,h2,HL.out]
   |false=>
    go_wp2_with fail
    refine(Q6.out _ HB5.out).mono ?_;rintro e w6 ⟨rfl,hb⟩;have HB6:=bt_ HB5 hb;have HY0:=hi_ (HX0.out.below hb);have HY1:=hi_ (HX1.out.below hb);clear hb a0 a1 b0 b1 HX0 HX1;obtain⟨a0,a1⟩:=a3_ HY0.out;obtain⟨b0,b1⟩:=a3_ HY1.out
    cases cba with
    |true=>
     have HL:=hi_ (HR5.out HNe.out (by trivial) rfl);have QW:=hi_ (Q8.out _ HB6.out rfl HNe.out);have hw:=HW.out.resolve_right (fun h=>h ⟨HNe.out,rfl⟩);have wn:IntKind.i64.wrap (-wb)=-wb:=IntWalk.i64_in _ (by omega);go_wp2_with fail
     refine QW.out.mono ?_;rintro e w7 ⟨rfl,hb⟩;have HB7:=bt_ HB6 hb;clear hb;go_wp2_with fail
     refine bodyPost_ret (v:=.tuple #[.int .i64 (-wb),.int .i64 0]) (by simp[results,Tryz.results13,go_sem]) rfl ⟨?_,HB7.out⟩;injection HRr.out with h1 h2
     rw[h1,h2,HL.out]
    |false=>
     have HL:=hi_ (HR6.out HNe.out (by trivial) rfl);have QW:=hi_ (Q9.out _ HB6.out HT1.out);go_wp2_with fail
     refine QW.out.mono ?_;rintro e w7 ⟨rfl,hb⟩;have HB7:=bt_ HB6 hb;clear hb;go_wp2_with fail
     refine bodyPost_ret (v:=.tuple #[.int .i64 cl,.int .i64 0]) (by simp[results,Tryz.results13,go_sem]) rfl ⟨?_,HB7.out⟩;injection HRr.out with h1 h2
     rw[h1,h2,HL.out]
 ·have t1:(zta==ztb)=false:=bn_ ht
  have HRr:=hi_ (HR1.out (fun h=>ht (HEt2.out h)));go_wp2_with fail
  refine bodyPost_ret (v:=.tuple #[.int .i64 0,.int .i64 6]) (by simp[results,Tryz.results13,go_sem]) rfl ⟨?_,HB4.out⟩;injection HRr.out with h1 h2
  rw[h1,h2]
end A
end
end Go.Proofs.YtinphfpdfodkkaaGreatDoor
