/- Texts. -/
import Derived.Test.YtinphfpdfodkkaaGreatDoorS05
import Derived.Test.YtinphfpdfodkkaaGreatDoorS02
set_option linter.unusedVariables false
set_option linter.unusedSimpArgs false
set_option maxHeartbeats 8000000
set_option maxRecDepth 100000
namespace Go.Proofs.YtinphfpdfodkkaaGreatDoor
section
open Go.RowKit Go.Sort
namespace A
open H G
theorem lo_(k:Int)(n a d:Value)(p f l pr nx:Value)(w:World) :
  Calls Tryz.prog 85 #[.agg #[.int .i64 k,n,a,d,p,f,l,pr,nx]] w fun e w'=>e=.returned (.bool (k==3 || k==4))/\Below w.heap.size w w':=by
 have hB1:=(Below.refl w.heap.size w).alloc (nl_) (.cells #[.int .i64 k,n,a,d,p,f,l,pr,nx] 126)
 by_cases h1:k=3
 ·subst h1
  go_enter Tryz.func85,Tryz.ntmps85
  go_wp2_with fail
  go_ret
  exact⟨rfl,hB1⟩
 have n1:(k==3)=false:=bn_ h1
 by_cases h2:k=4
 ·subst h2
  go_enter Tryz.func85,Tryz.ntmps85
  go_wp2_with fail
  go_ret
  exact⟨rfl,hB1⟩
 have n2:(k==4)=false:=bn_ h2
 go_enter Tryz.func85,Tryz.ntmps85
 go_wp2_with fail
 go_ret
 exact⟨ap_ (by rw[n1,n2];rfl),hB1⟩
def be_(z k:Int):Value:=.agg #[.int .i64 z,.int .i64 k]
theorem ln_(T:am_)(z k:Int)(w:World)(hT:al_ w T)(hz:-9223372036854775808<=z)(hz2:z<=9223372036854775807)(hp:T.ptr 0 z=none) :
  Calls Tryz.prog 38 #[.pointer (some ⟨T.tb,0,none⟩),be_ z k] w fun e w'=>e=.returned (.int .i64 6)/\Below w.heap.size w w':=by
 have hB1:=(Below.refl w.heap.size w).alloc (nl_) (.cells #[.int .i64 z,.int .i64 k] 31);have Q1:=hi_ (fun W (hW:Below w.heap.size w W)=>h0_ T z W (hT.below hW) hz hz2 hp);unfold dX_ at Q1;unfold be_;clear hT hp
 go_enter Tryz.func38,Tryz.ntmps38
 go_wp2_with fail
 refine(Q1.o _ hB1).mono ?_;rintro e w2 ⟨rfl,hb2⟩;have HB2:=hi_ ((hB1.trans (hb2.mono hB1.size)));have HB3:=hi_ (HB2.o.alloc HB2.o.size (.cells #[.int .i64 0,.string ⟨#[]⟩,.slice none 0 0,.string ⟨#[]⟩,.int .i64 0,.int .i64 0,.int .i64 0,.int .i64 0,.int .i64 0] 126));clear hb2 Q1;go_wp2_with fail
 go_ret
 exact⟨rfl,HB3.o⟩
def nW_(m:aa_)(i:Nat)(k:Int):Bool:=decide (0<=k) && decide (k<=(G.sizeOf m i:Nat))
theorem lm_(T:am_)(m:aa_)(pos:Nat->Nat)(i:Nat)(k:Int)(w:World)(hT:ag_ w T m pos)(hi:has m i=true)(hl:(nd m i).attrs.length<=100000)(hd_:(nd m i).data.length<=1000000) :
  Calls Tryz.prog 38 #[.pointer (some ⟨T.tb,0,none⟩),be_ (hd T pos i) k] w fun e w'=>e=.returned (.int .i64 (if nW_ m i k=true then 0 else 2))/\Below w.heap.size w w':=by
 have hF:=hT.fits;have hB1:=(Below.refl w.heap.size w).alloc (nl_) (.cells #[.int .i64 (hd T pos i),.int .i64 k] 31);have Q1:=hi_ (fun W (hW:Below w.heap.size w W)=>l3_ T m pos i W (hT.below hW) hi hl);have Q2:=hi_ (fun W (hW:Below w.heap.size w W)=>kN_ T m pos i W (hT.below hW) hi);have QC:=hi_ (fun n a d p f l pr nx W=>lo_ ((nd m i).kind:Nat) n a d p f l pr nx W);have HK:=hi_ (hF.kind i hi);have HD:=hi_ (hF.data i hi);have HZ:Hd (∀s,s=G.sizeOf m i->nW_ m i k=(decide (0<=k) && decide (k<=(s:Nat)))):=hi_ (fun s hs=>by rw[hs];rfl);have HSz:Hd (G.sizeOf m i=if 2<(nd m i).kind then(U.pts (nd m i).data).length else(nd m i).kids.length):=hi_ rfl;have hk4:(nd m i).kind<=4:=by
  rcases Nat.eq_zero_or_pos i with h0|h0
  ·rw[h0,hF.wf.doc.2.1];omega
  exact(hF.wf.kinds i (aR_ hi) h0).2
 have HK4:=hi_ hk4;have hkf:=cO_ hT.mem.few hF hi;have HKF:=hi_ hkf;unfold dF_ at Q1;rw[HK.o,HD.o]at Q1;unfold be_;generalize hres:(if nW_ m i k=true then(0:Int)else 2)=res;have HRes:=hi_ hres;clear hres;generalize nW_ m i k=ok at *;generalize T.sl (pos i)=r at *;generalize hd T pos i=z at *;generalize (nd m i).kids=kl at *;generalize (nd m i).kind=kd at *;generalize (nd m i).data=dt at *;generalize (nd m i).attrs=al at *;generalize G.sizeOf m i=sz at *;have HZ1:=hi_ (HZ.o _ rfl);clear hT hF hi HK HD HZ hk4 hkf
 go_enter Tryz.func38,Tryz.ntmps38
 go_wp2_with fail
 refine(Q1.o _ hB1).mono ?_;rintro e w2 ⟨v,rfl,hb2,hr2⟩;obtain⟨bo,bcap,rfl⟩:=aw_.slice (dE_ hr2);have HB2:=hi_ (hB1.trans (hb2.mono hB1.size));have HP2:=hi_ (show Blk w.heap.size #[.int .i64 z,.int .i64 k] 31 w2 from (Blk.new w _ _).below hb2);obtain⟨hc,hf⟩:=ae_ HP2.o;have p0:w2.cell? ⟨w.heap.size,0,none⟩=some (.int .i64 z):=hc 0;have p1:w2.cell? ⟨w.heap.size,1,none⟩=some (.int .i64 k):=hc 1;have hlt2:=HP2.o.lt;clear hb2 hr2 Q1 hc hf;go_wp2_with fail
 have HB3:=hi_ (HB2.o.alloc HB2.o.size (.cells #[.int .i64 kd,.string ⟨r.name.toArray⟩,.slice bo al.length bcap,.string ⟨dt.toArray⟩,.int .i64 r.parent,.int .i64 r.first,.int .i64 r.last,.int .i64 r.prev,.int .i64 r.next] 126));refine(Q2.o _ HB3.o).mono ?_;rintro e w3 ⟨kv,rfl,hb3,ho3⟩;obtain⟨ao,cap,rfl,_⟩:=e2_.form ho3;have HB4:=bt_ HB3 hb3;have HN:=hi_ (show Blk w2.heap.size #[.int .i64 kd,.string ⟨r.name.toArray⟩,.slice bo al.length bcap,.string ⟨dt.toArray⟩,.int .i64 r.parent,.int .i64 r.first,.int .i64 r.last,.int .i64 r.prev,.int .i64 r.next] 126 w3 from (Blk.new w2 _ _).below hb3);have HP3:=hi_ ((HP2.o.alloc _).below hb3);obtain⟨hc,hf⟩:=ae_ HP3.o;have p0:w3.cell? ⟨w.heap.size,0,none⟩=some (.int .i64 z):=hc 0;have p1:w3.cell? ⟨w.heap.size,1,none⟩=some (.int .i64 k):=hc 1
 obtain⟨⟨c0,c1,c2,c3,c4,c5,c6,c7,c8⟩,_⟩:=b2_ HN.o;have hlt3:=HN.o.lt;clear hb3 ho3 Q2 hc hf;go_wp2_with fail
 refine(QC.o _ _ _ _ _ _ _ _ w3).mono ?_;rintro e w4 ⟨rfl,hb4⟩;have HB5:=bt_ HB4 hb4;have HP4:=hi_ (HP3.o.below hb4);have HN4:=hi_ (HN.o.below hb4);obtain⟨hc,hf⟩:=ae_ HP4.o;have p0:w4.cell? ⟨w.heap.size,0,none⟩=some (.int .i64 z):=hc 0;have p1:w4.cell? ⟨w.heap.size,1,none⟩=some (.int .i64 k):=hc 1;obtain⟨⟨c0,c1,c2,c3,c4,c5,c6,c7,c8⟩,_⟩:=b2_ HN4.o;clear hb4 QC hc hf
 by_cases hch:2<kd
 ·have hkd:kd=3\/kd=4:=by have:=HK4.o;omega
  have e1:(((kd:Nat):Int)==3 || ((kd:Nat):Int)==4)=true:=by rcases hkd with h|h<;>simp[h]
  have HSz2:Hd (sz=(U.pts dt).length):=hi_ (by rw[HSz.o,if_pos hch]);rw[e1];have QL:=hi_ (Go.Proofs.YtinphfpdfodkkaaGreatDoor.T.Len ⟨dt.toArray⟩ w4 (by show dt.toArray.size<=_;rw[List.size_toArray];exact Nat.le_trans hd_ (by omega)));rw[show(⟨dt.toArray⟩:ByteArray).data.toList=dt by simp]at QL;generalize (U.pts dt).length=n at *;clear hch hkd e1;go_wp2_with fail
  refine QL.o.mono ?_;rintro e w5 ⟨rfl,hb5⟩;have HB6:=bt_ HB5 hb5;obtain⟨hc,hf⟩:=ae_ (HP4.o.below hb5);have q0:w5.cell? ⟨w.heap.size,0,none⟩=some (.int .i64 z):=hc 0;have q1:w5.cell? ⟨w.heap.size,1,none⟩=some (.int .i64 k):=hc 1;clear hb5 hc hf p0 p1 c0 c1 c2 c3 c4 c5 c6 c7 c8
  by_cases g1:k<0
  ·have HO:Hd (ok=false):=hi_ (by rw[HZ1.o,decide_eq_false (by omega)];rfl)
   go_wp2_with fail
   go_ret
   exact⟨aE_ (a:=2) (by rw[<-HRes.o,HO.o];rfl),HB6.o⟩
  by_cases g2:(n:Int)<k
  ·have HO:Hd (ok=false):=hi_ (by rw[HZ1.o,HSz2.o,decide_eq_false (p:=k<=_) (by omega),Bool.and_false])
   go_wp2_with fail
   go_ret
   exact⟨aE_ (a:=2) (by rw[<-HRes.o,HO.o];rfl),HB6.o⟩
  have HO:Hd (ok=true):=hi_ (by rw[HZ1.o,HSz2.o,decide_eq_true (by omega),decide_eq_true (by omega)];rfl);go_wp2_with fail
  go_ret
  exact⟨aE_ (a:=0) (by rw[<-HRes.o,HO.o];rfl),HB6.o⟩
 have e1:(((kd:Nat):Int)==3 || ((kd:Nat):Int)==4)=false:=by
  have h3:¬((kd:Nat):Int)=3:=by omega
  have h4:¬((kd:Nat):Int)=4:=by omega
  simp[h3,h4]
 have HSz2:Hd (sz=kl.length):=hi_ (by rw[HSz.o,if_neg hch]);rw[e1];generalize kl.length=n at *;clear hch e1
 by_cases g1:k<0
 ·have HO:Hd (ok=false):=hi_ (by rw[HZ1.o,decide_eq_false (by omega)];rfl)
  go_wp2_with fail
  go_ret
  exact⟨aE_ (a:=2) (by rw[<-HRes.o,HO.o];rfl),HB5.o⟩
 by_cases g2:(n:Int)<k
 ·have HO:Hd (ok=false):=hi_ (by rw[HZ1.o,HSz2.o,decide_eq_false (p:=k<=_) (by omega),Bool.and_false])
  go_wp2_with fail
  go_ret
  exact⟨aE_ (a:=2) (by rw[<-HRes.o,HO.o];rfl),HB5.o⟩
 have HO:Hd (ok=true):=hi_ (by rw[HZ1.o,HSz2.o,decide_eq_true (by omega),decide_eq_true (by omega)];rfl);go_wp2_with fail
 go_ret
 exact⟨aE_ (a:=0) (by rw[<-HRes.o,HO.o];rfl),HB5.o⟩
def gs_(m:aa_):Prop:=∀i,(nd m i).attrs.length<=100000/\(nd m i).data.length<=1000000
theorem iR_{m:aa_}(W:WF m){a:Nat×Nat}{y p:Nat}(hp:(nd m y).parent=some p):bp_ m a (depth m y) y=if p=a.1 then(if a.2<=(nd m p).kids.idxOf y then -1 else 1)else bp_ m a (depth m p) p:=by
 rw[W.depth_step hp,bp_,hp]
theorem iS_{m:aa_}(W:WF m){a:Nat×Nat}(h:Nat)(hc:contains m a.1 h=true)(hne:h≠a.1):bp_ m a 128 h=bp_ m a (depth m h) h:=by
 rw[cU_ W h [] 128 hc hne (W.depth_le h),cU_ W h [] _ hc hne (nl_)]
theorem lw_(T:am_)(m:aa_)(pos:Nat->Nat)(a:Nat×Nat)(h:Nat)(w:World)(hT:ag_ w T m pos)(hS:gs_ m)(hh:has m h=true)(ha:has m a.1=true)(hc:contains m a.1 h=true)(hne:h≠a.1)(hk:a.2<=1000000) :
  Calls Tryz.prog 41 #[.pointer (some ⟨T.tb,0,none⟩),be_ (hd T pos a.1) (a.2:Nat),.int .i64 (hd T pos h)] w fun e w'=>e=.returned (.int .i64 (bp_ m a 128 h))/\Below w.heap.size w w':=by
 have hF:=hT.fits;have hfew:=hT.mem.few;have HT:=hi_ hT;have hB1:=(Below.refl w.heap.size w).alloc (nl_) (.cells #[.int .i64 (hd T pos a.1),.int .i64 a.2] 31);have HB1:=hi_ hB1;have HP1:=hi_ (Blk.new w #[.int .i64 (hd T pos a.1),.int .i64 a.2] 31);have QN:=hi_ (fun(y:Nat) (hy:has m y=true) W (hW:Below w.heap.size w W)=>l3_ T m pos y W (hT.below hW) hy (hS y).1);have QI:=hi_ (fun(y p:Nat) (hy:has m y=true) (hp:(nd m y).parent=some p) W (hb:Below w.heap.size w W)=>d6_ T m pos y p W (hT.below hb) hy hp);have HR:=hi_ (iS_ hF.wf h hc hne);have HH0:=hi_ hh;have HC0:=hi_ (And.intro hc hne);have HA:=hi_ ha;unfold be_;generalize bp_ m a 128 h=R at *;clear hT hS hB1 hc hne hh ha
 go_enter Tryz.func41,Tryz.ntmps41
 go_wp2_with fail
 go_loopw [2] (fun v2 wr=>∃y:Nat,v2=.int .i64 (hd T pos y)/\Hd (has m y=true)/\Hd (contains m a.1 y=true/\y≠a.1)/\Hd (R=bp_ m a (depth m y) y)/\Hd (Below w.heap.size w wr)/\Hd (Blk w.heap.size #[.int .i64 (hd T pos a.1),.int .i64 a.2] 31 wr)) (fun v2 _=>deep T m pos (a2_ v2))
 case atStart=>exact⟨h,rfl,HH0,HC0,HR,HB1,HP1⟩
 obtain⟨y,rfl,HH,HC,HE,HU,HP⟩:=hrel;clear HB1 HP1 HH0 HC0 HR;obtain⟨p,hp⟩:∃p,(nd m y).parent=some p:=by
  cases hp:(nd m y).parent with
  |some p=>exact⟨p,rfl⟩
  |none=>
   have h1:=HC.o.1;rw[hF.wf.contains_root hp]at h1;exact absurd (beq_iff_eq.1 h1).symm HC.o.2
 have hph:=bI_ hF HH.o hp;have HPH:=hi_ hph;have hE:=HE.o;rw[iR_ hF.wf hp]at hE;have Q1:=hi_ (QN.o y HH.o wr HU.o);have Q2:=hi_ (QI.o y p HH.o hp);have hD:=(ci_ HT.o HU.o HH.o).2.2.2.1;rw[hp]at hD;have HD:=hi_ hD;have hix:(nd m p).kids.idxOf y<=1000000:=Nat.le_trans (List.idxOf_le_length) (cO_ hfew hF hph);have hpv:(T.sl (pos y)).parent=hd T pos p:=by rw[hF.parent y HH.o,hp];rfl
 unfold dF_ at Q1;rw[hpv]at Q1;have HCn:Hd (p≠a.1->contains m a.1 p=true):=hi_ (fun hpa=>by
  have h1:=HC.o.1;rw[hF.wf.contains_step hp]at h1
  rcases Bool.or_eq_true_iff.1 h1 with h1|h1
  ·exact absurd (beq_iff_eq.1 h1).symm HC.o.2
  exact h1)
 have HEq:Hd (hd T pos p=hd T pos a.1->p=a.1):=hi_ (fun h=>dJ_ hF hph HA.o h);generalize (nd m p).kids.idxOf y=ix at *;generalize T.sl (pos y)=r at *;generalize (nd m y).attrs=al at *;have HE2:=hi_ hE;obtain⟨zy,hzy⟩:∃z,z=hdO T pos (some y):=⟨_,rfl⟩;rw[show hd T pos y=zy from hzy.symm]at Q1 Q2 ⊢;rw[<-hzy]at HD;obtain⟨zp,hzp⟩:∃z,z=hd T pos p:=⟨_,rfl⟩;rw[<-hzp]at Q1 HEq;have HZP:=hi_ hzp;clear hE hD hpv hp hzy hzp hph;obtain⟨hcc,hff⟩:=ae_ HP.o;go_wp2_with fail
 refine Q1.o.mono ?_;rintro e w2 ⟨v,rfl,hb2,hr2⟩;obtain⟨bo,bcap,rfl⟩:=aw_.slice (dE_ hr2);have HB2:=bt_ HU hb2;have HP2:=hi_ (HP.o.below hb2);obtain⟨hc,hf⟩:=ae_ HP2.o;have p0:w2.cell? ⟨w.heap.size,0,none⟩=some (.int .i64 (hd T pos a.1)):=hc 0;have p1:w2.cell? ⟨w.heap.size,1,none⟩=some (.int .i64 a.2):=hc 1;have hlt2:=HP2.o.lt;clear hb2 hr2 Q1 hc hf hcc hff
 by_cases e:zp=hd T pos a.1
 ·have e1:(zp==hd T pos a.1)=true:=by rw[e];exact beq_self_eq_true _
  have HF:Hd (R=if a.2<=ix then -1 else 1):=hi_ (by rw[HE2.o,if_pos (HEq.o e)]);have HE3:=hi_ e;clear e;have HB3:=hi_ (HB2.o.alloc HB2.o.size (.cells #[.int .i64 r.kind,.string ⟨r.name.toArray⟩,.slice bo al.length bcap,.string ⟨r.data.toArray⟩,.int .i64 zp,.int .i64 r.first,.int .i64 r.last,.int .i64 r.prev,.int .i64 r.next] 126));have HP3:=hi_ (HP2.o.alloc (.cells #[.int .i64 r.kind,.string ⟨r.name.toArray⟩,.slice bo al.length bcap,.string ⟨r.data.toArray⟩,.int .i64 zp,.int .i64 r.first,.int .i64 r.last,.int .i64 r.prev,.int .i64 r.next] 126));go_wp2_with fail
  generalize w2.alloc (.cells #[.int .i64 r.kind,.string ⟨r.name.toArray⟩,.slice bo al.length bcap,.string ⟨r.data.toArray⟩,.int .i64 zp,.int .i64 r.first,.int .i64 r.last,.int .i64 r.prev,.int .i64 r.next] 126)=w3 at *;have q1:w3.cell? ⟨w.heap.size,1,none⟩=some (.int .i64 a.2):=(ae_ HP3.o).1 1;have hlt3:=HP3.o.lt;have D1:=lc_ q1 hlt3;refine af_ (by kernel_rfl) (by kernel_rfl) ?_;repeat (go_big_quiet_step ((go_at_call 87;exact Calls.later (Q2.o _ (HB3.o.trans ((Later.h _).mono HB3.o.size))))))
  refine wq_ (fun dq=>?_);have HB4:=bt_ HB3 dq.h;clear D1 q1 p0 p1
  by_cases g:a.2<=ix
  ·have g1:((a.2:Nat):Int)<=(ix:Nat):=by omega
   go_wp2_with fail
   go_ret
   exact⟨aE_ (a:=-1) (by rw[HF.o,if_pos g]),HB4.o⟩
  have g1:¬((a.2:Nat):Int)<=(ix:Nat):=by omega
  go_wp2_with fail
  go_ret
  exact⟨aE_ (a:=1) (by rw[HF.o,if_neg g]),HB4.o⟩
 have e1:(zp==hd T pos a.1)=false:=bn_ e;have hpa:p≠a.1:=fun h2=>e (by rw[HZP.o,h2]);have HF:Hd (R=bp_ m a (depth m p) p):=hi_ (by rw[HE2.o,if_neg hpa]);have HC3:=hi_ (And.intro (HCn.o hpa) hpa);clear hpa;go_wp2_with fail
 refine⟨⟨p,congrArg (Value.int IntKind.i64) HZP.o,HPH,HC3,HF,hi_ (HB2.o.alloc HB2.o.size _),hi_ (HP2.o.alloc _)⟩,?_⟩;show deep T m pos zp<deep T m pos zy;rw[HZP.o];exact HD.o
def ns_(T:am_)(m:aa_)(pos:Nat->Nat)(z k o:Int):Prop:=
 (∃i,has m i=true/\z=hd T pos i/\o=if nW_ m i k=true then 0 else 2)\/(T.ptr 0 z=none/\o=6/\-9223372036854775808<=z/\z<=9223372036854775807)
theorem hc_(T:am_)(m:aa_)(pos:Nat->Nat)(z k o:Int)(w:World)(hT:ag_ w T m pos)(hS:gs_ m)(hp:ns_ T m pos z k o) :
  Calls Tryz.prog 38 #[.pointer (some ⟨T.tb,0,none⟩),be_ z k] w fun e w'=>e=.returned (.int .i64 o)/\Below w.heap.size w w':=by
 rcases hp with⟨i,hi,rfl,rfl⟩|⟨h1,rfl,h2,h3⟩
 ·exact lm_ T m pos i k w hT hi (hS i).1 (hS i).2
 exact ln_ T z k w hT.mem h2 h3 h1
theorem bz_{w:World}{g:Nat}{t:TypeId}{a0 a1:Value}(h:Blk g #[a0,a1] t w):w.cell? ⟨g,0,none⟩=some a0/\w.cell? ⟨g,1,none⟩=some a1:=⟨(ae_ h).1 0,(ae_ h).1 1⟩
def b7_(m:aa_)(a b:Nat×Nat):Int×Int:=if top m a.1≠top m b.1 then(0,6) else(lcmp m a b,0)
theorem j2_(T:am_)(m:aa_)(pos:Nat->Nat)(a b:Nat×Nat)(w:World)(hT:ag_ w T m pos)(hS:gs_ m)(ha:has m a.1=true)(hb:has m b.1=true)(oa:nW_ m a.1 (a.2:Nat)=true)(ob:nW_ m b.1 (b.2:Nat)=true)(ka:a.2<=1000000)(kb:b.2<=1000000) :
  Calls Tryz.prog 13 #[.pointer (some ⟨T.tb,0,none⟩),be_ (hd T pos a.1) (a.2:Nat),be_ (hd T pos b.1) (b.2:Nat)] w fun e w'=>e=.returned (.tuple #[.int .i64 (b7_ m a b).1,.int .i64 (b7_ m a b).2])/\Below w.heap.size w w':=by
 have hF:=hT.fits;have pa:ns_ T m pos (hd T pos a.1) (a.2:Nat) 0:=Or.inl ⟨a.1,ha,rfl,by rw[if_pos oa]⟩;have pb:ns_ T m pos (hd T pos b.1) (b.2:Nat) 0:=Or.inl ⟨b.1,hb,rfl,by rw[if_pos ob]⟩;have hB1:=((Below.refl w.heap.size w).alloc (nl_) (.cells #[.int .i64 (hd T pos a.1),.int .i64 a.2] 31)).alloc (by simp) (.cells #[.int .i64 (hd T pos b.1),.int .i64 b.2] 31);have Q1:=hi_ (fun W (hW:Below w.heap.size w W)=>hc_ T m pos _ _ _ W (hT.below hW) hS pa);have Q2:=hi_ (fun W (hW:Below w.heap.size w W)=>hc_ T m pos _ _ _ W (hT.below hW) hS pb);have Q3:=hi_ (fun W (hW:Below w.heap.size w W)=>top_ T m pos a.1 W (hT.below hW) ha);have Q4:=hi_ (fun W (hW:Below w.heap.size w W)=>top_ T m pos b.1 W (hT.below hW) hb)
 have Q5:=hi_ (fun W (hW:Below w.heap.size w W)=>cp_ T m pos a.1 b.1 W (hT.below hW) ha hb);have Q6:=hi_ (fun W (hW:Below w.heap.size w W)=>cp_ T m pos b.1 a.1 W (hT.below hW) hb ha);have Q7:=hi_ (fun W (hW:Below w.heap.size w W) (hc:contains m a.1 b.1=true) (hne:b.1≠a.1)=>lw_ T m pos a b.1 W (hT.below hW) hS hb ha hc hne ka);have Q8:=hi_ (fun W (hW:Below w.heap.size w W) (hc:contains m b.1 a.1=true) (hne:a.1≠b.1)=>lw_ T m pos b a.1 W (hT.below hW) hS ha hb hc hne kb);have Q9:=hi_ (fun W (hW:Below w.heap.size w W) (ht:top m a.1=top m b.1)=>ou_ T m pos a.1 b.1 W (hT.below hW) ha hb ht);have HEt:=hi_ (fun(h:hd T pos (top m a.1)=hd T pos (top m b.1))=>dJ_ hF (lD_ hF _ ha) (lD_ hF _ hb) h);have HEt2:=hi_ (fun(h:top m a.1=top m b.1)=>congrArg (hd T pos) h)
 have HEn:=hi_ (fun(h:hd T pos a.1=hd T pos b.1)=>dJ_ hF ha hb h);have HEn2:=hi_ (fun(h:a.1=b.1)=>congrArg (hd T pos) h);have HX0:=hi_ ((Blk.new w #[.int .i64 (hd T pos a.1),.int .i64 a.2] 31).alloc (.cells #[.int .i64 (hd T pos b.1),.int .i64 b.2] 31));have hb1:=Blk.new (w.alloc (.cells #[.int .i64 (hd T pos a.1),.int .i64 a.2] 31)) #[.int .i64 (hd T pos b.1),.int .i64 b.2] 31;rw[show(w.alloc (.cells #[.int .i64 (hd T pos a.1),.int .i64 a.2] 31)).heap.size=w.heap.size+1 by simp]at hb1;have HX1:=hi_ hb1;have HR1:Hd (top m a.1≠top m b.1->b7_ m a b=(0,6)):=hi_ (fun h=>if_pos h);have HR2:Hd (top m a.1=top m b.1->b7_ m a b=(lcmp m a b,0)):=hi_ (fun h=>if_neg (fun h2=>h2 h))
 have HR3:Hd (a.1=b.1->lcmp m a b=sgn (a.2:Nat) (b.2:Nat)):=hi_ (fun h=>by
  unfold lcmp sgn;rw[if_pos h];simp only[Int.ofNat_lt])
 have HR4:Hd (a.1≠b.1->contains m a.1 b.1=true->lcmp m a b=bp_ m a 128 b.1):=hi_ (fun h h2=>by unfold lcmp;rw[if_neg h,if_pos h2]);have HR5:Hd (a.1≠b.1->contains m a.1 b.1=false->contains m b.1 a.1=true->lcmp m a b=- bp_ m b 128 a.1):=hi_ (fun h h2 h3=>by unfold lcmp;rw[if_neg h,if_neg (by rw[h2];exact Bool.false_ne_true),if_pos h3]);have HR6:Hd (a.1≠b.1->contains m a.1 b.1=false->contains m b.1 a.1=false->lcmp m a b=cmpL (pidx m a.1) (pidx m b.1)):=hi_ (fun h h2 h3=>by unfold lcmp;rw[if_neg h,if_neg (by rw[h2];exact Bool.false_ne_true),if_neg (by rw[h3];exact Bool.false_ne_true)]);have HW:Hd (-1<=bp_ m b 128 a.1/\bp_ m b 128 a.1<=1\/¬(a.1≠b.1/\contains m b.1 a.1=true)):=hi_ (by
  by_cases hq:a.1≠b.1/\contains m b.1 a.1=true
  ·refine Or.inl ?_
   rw[cU_ hF.wf a.1 [] 128 hq.2 hq.1 (hF.wf.depth_le _)];have:=ff_ (cg_ m b) ((pidx m a.1).map odd++[]);omega
  exact Or.inr hq)
 generalize b7_ m a b=res at *;generalize lcmp m a b=lc at *;generalize bp_ m a 128 b.1=wa at *;generalize bp_ m b 128 a.1=wb at *;generalize cmpL (pidx m a.1) (pidx m b.1)=cl at *;generalize contains m a.1 b.1=cab at *;generalize contains m b.1 a.1=cba at *;generalize top m a.1=ta at *;generalize top m b.1=tb' at *;unfold be_ at *;generalize hd T pos a.1=za at *;generalize hd T pos b.1=zb at *;generalize hd T pos ta=zta at *;generalize hd T pos tb'=ztb at *;generalize a.1=ai at *;generalize b.1=bi at *;generalize ha2:((a.2:Nat):Int)=ak at *;generalize hb2':((b.2:Nat):Int)=bk at *;obtain⟨rc,re⟩:=res;have QS:=hi_ (fun W=>pa_ ak bk W);generalize sgn ak bk=sg at *;clear hT hS hF pa pb oa ob ha hb hb1 ka kb ha2 hb2'
 go_enter Tryz.func13,Tryz.ntmps13
 go_wp2_with fail
 refine(Q1.o _ hB1).mono ?_;rintro e w2 ⟨rfl,hb⟩;have HB2:=hi_ (hB1.trans (hb.mono hB1.size));have HY0:=hi_ (HX0.o.below hb);have HY1:=hi_ (HX1.o.below hb);clear hb hB1 HX0 HX1;obtain⟨a0,a1⟩:=bz_ HY0.o;obtain⟨b0,b1⟩:=bz_ HY1.o;go_wp2_with fail
 refine(Q2.o _ HB2.o).mono ?_;rintro e w3 ⟨rfl,hb⟩;have HB3:=bt_ HB2 hb;have HX0:=hi_ (HY0.o.below hb);have HX1:=hi_ (HY1.o.below hb);clear hb HY0 HY1 a0 a1 b0 b1;obtain⟨a0,a1⟩:=bz_ HX0.o;obtain⟨b0,b1⟩:=bz_ HX1.o;have D1:=fun d:Later w3.heap.size w3=>Later.cell a0 HX0.o.lt d;have D2:=fun d:Later w3.heap.size w3=>Later.cell b0 HX1.o.lt d;go_wp2_with fail
 refine af_ (by kernel_rfl) (by kernel_rfl) ?_;repeat (go_big_quiet_step (first|(go_at_call_of 30 (Value.int .i64 za);exact Calls.later (Q3.o _ (HB3.o.trans ((Later.h _).mono HB3.o.size))))|(go_at_call_of 30 (Value.int .i64 zb);exact Calls.later (Q4.o _ (HB3.o.trans ((Later.h _).mono HB3.o.size))))))
 refine wq_ (fun dq=>?_);have HB4:=bt_ HB3 dq.h;have HY0:=hi_ (HX0.o.below dq.h);have HY1:=hi_ (HX1.o.below dq.h);clear D1 D2 a0 a1 b0 b1 HX0 HX1 HB3;generalize dq.w=w4 at *;clear dq;obtain⟨a0,a1⟩:=bz_ HY0.o;obtain⟨b0,b1⟩:=bz_ HY1.o
 by_cases ht:zta=ztb
 ·have t1:(zta==ztb)=true:=by rw[ht];exact beq_self_eq_true _
  have HT1:=hi_ (HEt.o ht);have HRr:=hi_ (HR2.o HT1.o)
  by_cases hn:za=zb
  ·have n1:(za==zb)=true:=by rw[hn];exact beq_self_eq_true _
   have HL:=hi_ (HR3.o (HEn.o hn));clear hn ht;go_wp2_with fail
   refine(QS.o _).mono ?_;rintro e w5 ⟨rfl,rfl⟩;go_wp2_with fail
   refine bodyPost_ret (v:=.tuple #[.int .i64 sg,.int .i64 0]) (by simp[results,Tryz.results13,go_sem]) rfl ⟨?_,HB4.o⟩;injection HRr.o with h1 h2
   rw[h1,h2,HL.o]
  have n1:(za==zb)=false:=bn_ hn;have HNe:=hi_ (show ai≠bi from fun h=>hn (HEn2.o h));clear hn ht;go_wp2_with fail
  refine(Q5.o _ HB4.o).mono ?_;rintro e w5 ⟨rfl,hb⟩;have HB5:=bt_ HB4 hb;have HX0:=hi_ (HY0.o.below hb);have HX1:=hi_ (HY1.o.below hb);clear hb a0 a1 b0 b1 HY0 HY1;obtain⟨a0,a1⟩:=bz_ HX0.o;obtain⟨b0,b1⟩:=bz_ HX1.o
  cases cab with
  |true=>
   have HL:=hi_ (HR4.o HNe.o rfl);have QW:=hi_ (Q7.o _ HB5.o rfl (fun h=>HNe.o h.symm));go_wp2_with fail
   refine QW.o.mono ?_;rintro e w6 ⟨rfl,hb⟩;have HB6:=bt_ HB5 hb;clear hb;go_wp2_with fail
   refine bodyPost_ret (v:=.tuple #[.int .i64 wa,.int .i64 0]) (by simp[results,Tryz.results13,go_sem]) rfl ⟨?_,HB6.o⟩;injection HRr.o with h1 h2
   rw[h1,h2,HL.o]
  |false=>
   go_wp2_with fail
   refine(Q6.o _ HB5.o).mono ?_;rintro e w6 ⟨rfl,hb⟩;have HB6:=bt_ HB5 hb;have HY0:=hi_ (HX0.o.below hb);have HY1:=hi_ (HX1.o.below hb);clear hb a0 a1 b0 b1 HX0 HX1;obtain⟨a0,a1⟩:=bz_ HY0.o;obtain⟨b0,b1⟩:=bz_ HY1.o
   cases cba with
   |true=>
    have HL:=hi_ (HR5.o HNe.o (by trivial) rfl);have QW:=hi_ (Q8.o _ HB6.o rfl HNe.o);have hw:=HW.o.resolve_right (fun h=>h ⟨HNe.o,rfl⟩);have wn:IntKind.i64.wrap (-wb)=-wb:=IntWalk.i64_in _ (by omega);go_wp2_with fail
    refine QW.o.mono ?_;rintro e w7 ⟨rfl,hb⟩;have HB7:=bt_ HB6 hb;clear hb;go_wp2_with fail
    refine bodyPost_ret (v:=.tuple #[.int .i64 (-wb),.int .i64 0]) (by simp[results,Tryz.results13,go_sem]) rfl ⟨?_,HB7.o⟩;injection HRr.o with h1 h2
    rw[h1,h2,HL.o]
   |false=>
    have HL:=hi_ (HR6.o HNe.o (by trivial) rfl);have QW:=hi_ (Q9.o _ HB6.o HT1.o);go_wp2_with fail
    refine QW.o.mono ?_;rintro e w7 ⟨rfl,hb⟩;have HB7:=bt_ HB6 hb;clear hb;go_wp2_with fail
    refine bodyPost_ret (v:=.tuple #[.int .i64 cl,.int .i64 0]) (by simp[results,Tryz.results13,go_sem]) rfl ⟨?_,HB7.o⟩;injection HRr.o with h1 h2
    rw[h1,h2,HL.o]
 have t1:(zta==ztb)=false:=bn_ ht;have HRr:=hi_ (HR1.o (fun h=>ht (HEt2.o h)));go_wp2_with fail
 refine bodyPost_ret (v:=.tuple #[.int .i64 0,.int .i64 6]) (by simp[results,Tryz.results13,go_sem]) rfl ⟨?_,HB4.o⟩;injection HRr.o with h1 h2
 rw[h1,h2]
end A
end
end Go.Proofs.YtinphfpdfodkkaaGreatDoor
