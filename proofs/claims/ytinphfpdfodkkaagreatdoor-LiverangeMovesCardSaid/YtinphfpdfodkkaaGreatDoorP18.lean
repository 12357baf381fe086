/- Texts. -/
import Derived.Test.YtinphfpdfodkkaaGreatDoorP17
import Derived.Test.YtinphfpdfodkkaaGreatDoorP14
set_option linter.unusedVariables false
set_option linter.unusedSimpArgs false
set_option maxHeartbeats 8000000
set_option maxRecDepth 100000
namespace Go.Proofs.YtinphfpdfodkkaaGreatDoor
section
open Go.RowKit Go.Sort
namespace R
open H G A
def gk_(m:aa_)(ks:List Nat):aa_:=m.mapIdx fun i x=>{ x with gone:=x.gone || ks.contains i }
theorem lW_(m:aa_):gk_ m []=m:=by
 unfold gk_;apply List.ext_getElem?;intro k;rw[List.getElem?_mapIdx]
 cases m[k]? with
 |none=>rfl
 |some x=>simp
theorem kf_(m:aa_)(ks:List Nat)(c:Nat):upd (gk_ m ks) c (fun x=>{ x with gone:=true })=gk_ m (ks++[c]):=by
 unfold gk_ upd;apply List.ext_getElem?;intro k;rw[List.getElem?_modify,List.getElem?_mapIdx,List.getElem?_mapIdx]
 cases m[k]? with
 |none=>simp
 |some x=>
  by_cases e:c=k
  ·subst e;simp
  ·have e2:¬k=c:=fun h=>e h.symm
   simp[e,e2]
theorem ke_{w:World}{M:aF_}(h:ab_ w M){i:Nat}(hi:i<M.nodes.length) :
  ab_ (w.setCell ⟨M.g,i*7+6,none⟩ (.bool true)) (M.modN i fun x=>{ x with n:={ x.n with gone:=true } })/\(M.modN i fun x=>{ x with n:={ x.n with gone:=true } }).m=upd M.m i (fun x=>{ x with gone:=true })/\aO_ w M (M.modN i fun x=>{ x with n:={ x.n with gone:=true } }):=by
 refine⟨h.storeP hi (by omega) (.bool true) _ rfl ⟨rfl,rfl,rfl,rfl⟩,d9_ M i _ (fun x=>{ x with gone:=true }) (fun x=>rfl),rfl,rfl,fun k hk=>?_⟩
 rcases b2_ hi hk with h1|h1|h1
 ·exact Or.inl h1
 ·exact Or.inl (Or.inr (Or.inr ⟨_,(aF_.at_mem hi).2,Or.inl h1⟩))
 ·exact Or.inl (Or.inr (Or.inr ⟨_,(aF_.at_mem hi).2,Or.inr h1⟩))
theorem aO_.step{w:World}{M M' M2:aF_}{w':World}(h:aO_ w M M')(k:aO_ w' M' M2)(hs:w.heap.size<=w'.heap.size):aO_ w M M2:=
 ⟨k.mb.trans h.mb,k.B.trans h.B,fun b hb=>(k.foot b hb).elim (fun h1=>h.foot b h1) (fun h1=>Or.inr (by omega))⟩
theorem mDrop(M:aF_)(h:Nat)(w:World)(hM:ab_ w M)(W:WF M.m)(hh:h<M.nodes.length) :
  Calls Tryz.prog 73 #[.pointer (some ⟨M.mb,0,none⟩),.int .i64 h] w fun e w'=>∃M',e=.returned (.int .i64 ((cr_ M.m h).1:Nat))/\H.Frame (fun k=>k=M.g) w w'/\ab_ w' M'/\M'.m=(cr_ M.m h).2/\aO_ w M M':=by
 obtain⟨c0,l0,l1⟩:=hM.top;have k4:=(hM.cell hh).2.2.2.2.1;have n1:(h:Int)<(M.nodes.length:Int):=by omega
 have hfew:=hM.few;have hk1:=g5_ W (h:=h) (by rw[M.m_len];exact hh);have HM:=hi_ hM;have QW:=hi_ (mWalk M w hM W (aA_ M.m h) h w (br_) (nl_) hh);have hwl:=i3_ W (h:=h) (by rw[M.m_len];exact hh);rw[M.m_len]at hwl;have HIn:=hi_ (walk_lt W h (by rw[M.m_len];exact hh));obtain⟨R,hR⟩:∃R,R=cr_ M.m h:=⟨_,rfl⟩;have HRr:Hid (R=if (nd M.m h).parent≠none\/(nd M.m h).kind=1 then(7,M.m) else(0,gk_ M.m (walk M.m h))):=hi_ hR;rw[<-hR];generalize (nd M.m h).kind=kd at *;generalize (nd M.m h).parent=par at *;generalize hl:walk M.m h=l at *;generalize hlen:l.length=len at *;have HLen:=hi_ hlen;have k4':w.cell? ⟨M.g,h*7+4,none⟩=some (.int .i64 (cm_ par)):=k4;clear hM hR hl hlen k4
 go_enter Tryz.func73,Tryz.ntmps73
 by_cases h0:h=0
 ·have HRs:Hid (R=(7,M.m)):=hi_ (by rw[HRr.out,if_pos (Or.inr (hk1.2 h0))])
  clear hk1 HRr;subst h0;go_wp2_with fail
  go_ret
  exact⟨M,by rw[HRs.out];rfl,H.Frame.refl _ _,HM.out,by rw[HRs.out],aO_.refl _ _⟩
 ·have h0':¬((h:Int)=0):=by omega
  have h0b:((h:Int)==0)=false:=bn_ h0';have hkd:¬kd=1:=fun e=>h0 (hk1.1 e);clear hk1
  cases par with
  |some p=>
   have HRs:Hid (R=(7,M.m)):=hi_ (by rw[HRr.out,if_pos (Or.inl (by simp))]);have hp:(0:Int)<=cm_ (some p):=by show(0:Int)<=(p:Int);omega
   clear HRr;go_wp2_with fail
   go_ret
   exact⟨M,by rw[HRs.out];rfl,H.Frame.refl _ _,HM.out,by rw[HRs.out],aO_.refl _ _⟩
  |none=>
   have HRs:Hid (R=(0,gk_ M.m l)):=hi_ (by rw[HRr.out,if_neg (by simp[hkd])]);have hp:cm_ none=-1:=rfl;rw[hp]at k4';clear HRr;go_wp2_with fail
   refine QW.out.mono ?_;rintro e w2 ⟨v,rfl,hb2,hown⟩;obtain⟨ao,cap,hv,hc⟩:=b4_.form hown;rw[HLen.out]at hv;subst hv;have HM2:=hi_ (HM.out.below hb2);have HO2:=hi_ hown;have HF2:=hi_ (H.Frame.of (S:=fun k=>k=M.g) hb2);clear hown hc k4' c0 QW;go_wp2_with fail
   go_loopw [6] (fun v6 wr=>∃(q:Nat) (M':aF_),v6=.int .i64 (q:Nat)/\q<=len/\Hid (ab_ wr M')/\Hid (M'.m=gk_ M.m (l.take q))/\Hid (aO_ w M M'/\M'.g=M.g/\M'.nodes.length=M.nodes.length)/\Hid (H.Frame (fun k=>k=M.g) w wr)/\Hid (b4_ w.heap.size wr (.slice ao len cap) l)) (fun v6 _=>len-(aN_ v6).toNat)
   case atStart=>exact⟨0,M,rfl,by omega,HM2,hi_ (by rw[List.take_zero,lW_]),hi_ ⟨aO_.refl _ _,rfl,rfl⟩,HF2,HO2⟩
   case round=>
    obtain⟨q,M',rfl,hq0,HMq,HMm,HML,HFq,HOq⟩:=hrel
    by_cases hq:q=len
    ·have HF:Hid (M'.m=gk_ M.m l):=hi_ (by rw[HMm.out,hq,List.take_of_length_le (by rw[HLen.out];omega)])
     have hnl:¬((q:Int)<(len:Int)):=by omega
     clear hq;go_wp2_with fail
     go_ret
     exact⟨by rw[HRs.out];rfl,HFq.out,M',HMq.out,by rw[HF.out,HRs.out],HML.out.1⟩
    ·have hil:q<l.length:=by rw[HLen.out];omega
     have hlt:(q:Int)<(len:Int):=by omega
     have hx:l[q]?=some l[q]:=List.getElem?_eq_getElem hil;obtain⟨ao2,cap2,hv2,hcs⟩:=b4_.form HOq.out;obtain⟨g,hao,hg1,hcell⟩:=hcs _ _ hx;rw[HLen.out]at hv2;injection hv2 with e1 e2 e3
     subst e1 e3;subst hao;have hcl:l[q]<M'.nodes.length:=by rw[HML.out.2.2,<-M.m_len];exact HIn.out _ (List.getElem_mem hil)
     have HTk:Hid (l.take (q+1)=l.take q++[l[q]]):=hi_ (by rw[List.take_add_one,hx];rfl);generalize l[q]=c at *;obtain⟨hs1,hs2,hs3⟩:=ke_ HMq.out hcl;have k6:=(HMq.out.cell hcl).2.2.2.2.2.2;have f6:=(ac_.cell aT_ HMq.out.row hcl (k:=6) (by omega)).2;obtain⟨d0,m0,m1⟩:=HMq.out.top;have hg2:=HML.out.2.1;have hmb:=HML.out.1.mb;rw[hg2]at k6 f6 d0 m1 hs1;rw[hmb]at d0 m0;have HS1:=hi_ hs1;have HS2:Hid ((M'.modN c fun x=>{ x with n:={ x.n with gone:=true } }).m=gk_ M.m (l.take (q+1))):=hi_ (by rw[hs2,HMm.out,kf_,HTk.out])
     have HS3:=hi_ (show aO_ w M (M'.modN c fun x=>{ x with n:={ x.n with gone:=true } })/\(M'.modN c fun x=>{ x with n:={ x.n with gone:=true } }).g=M.g/\(M'.modN c fun x=>{ x with n:={ x.n with gone:=true } }).nodes.length=M.nodes.length from ⟨HML.out.1.step hs3 HFq.out.size,hg2,by rw[ct_,HML.out.2.2]⟩);have HF3:=hi_ (frG (g:=M.g) HFq.out (c*7+6) (.bool true));have HO3:=hi_ (show b4_ w.heap.size (wr.setCell ⟨M.g,c*7+6,none⟩ (.bool true)) (.slice (some ⟨g,0,none⟩) len cap) l from au_ HOq.out (fun e=>by
      have h5:=(World.ownsRow.lt HOq.out M.g e).1
      omega) _ _)
     have n2:(c:Int)<(M'.nodes.length:Int):=by omega
     have wq:IntKind.i64.wrap ((q:Int)+1)=(q:Int)+1:=IntWalk.i64_in _ (by omega);clear hx hil hq hs1 hs2 hs3 hcs e2 hg2 hmb hcl;go_upto_region 7 with fail
     go_region
     all_goals (
      go_wp2_with fail
      go_roundw
      case rel=>exact⟨q+1,_,by go_num,by omega,hi_ (HS1.out.below (br_).drew),HS2,HS3,hi_ (HF3.out.below_ (br_).drew),hi_ (own_below HO3.out (br_).drew)⟩
      case measure=>simp[aN_];omega)
theorem c5_(b:UInt8)(n:Nat)(h:n<256):((b.toNat:Int)==(n:Int))=(b==UInt8.ofNat n):=by
 rw[Bool.eq_iff_iff];simp only[beq_iff_eq];constructor
 ·intro e
  have e':b.toNat=n:=by omega
  rw[<-e'];simp
 ·intro e;subst e;simp;omega
theorem mI_(b:UInt8)(w:World) :
  Calls Tryz.prog 166 #[.int .u8 b.toNat] w fun e w'=>e=.returned (.bool (G.spB b))/\w=w':=by
 have e1:=c5_ b 9 (by omega);have e2:=c5_ b 10 (by omega);have e3:=c5_ b 12 (by omega);have e4:=c5_ b 13 (by omega);have e5:=c5_ b 32 (by omega);have hsp:G.spB b=((b==9) || (b==10) || (b==12) || (b==13) || (b==32)):=rfl;rw[hsp];clear hsp
 cases h1:(b==9) with
 |true=>
  have t1:((b.toNat:Int)==9)=true:=e1.trans h1;clear e1 e2 e3 e4 e5 h1
  go_enter Tryz.func166,Tryz.ntmps166
  go_wp2
  go_ret
  exact⟨rfl,rfl⟩
 |false=>
 have t1:((b.toNat:Int)==9)=false:=e1.trans h1
 cases h2:(b==10) with
 |true=>
  have t2:((b.toNat:Int)==10)=true:=e2.trans h2;clear e1 e2 e3 e4 e5 h1 h2
  go_enter Tryz.func166,Tryz.ntmps166
  go_wp2
  go_ret
  exact⟨rfl,rfl⟩
 |false=>
 have t2:((b.toNat:Int)==10)=false:=e2.trans h2
 cases h3:(b==12) with
 |true=>
  have t3:((b.toNat:Int)==12)=true:=e3.trans h3;clear e1 e2 e3 e4 e5 h1 h2 h3
  go_enter Tryz.func166,Tryz.ntmps166
  go_wp2
  go_ret
  exact⟨rfl,rfl⟩
 |false=>
 have t3:((b.toNat:Int)==12)=false:=e3.trans h3
 cases h4:(b==13) with
 |true=>
  have t4:((b.toNat:Int)==13)=true:=e4.trans h4;clear e1 e2 e3 e4 e5 h1 h2 h3 h4
  go_enter Tryz.func166,Tryz.ntmps166
  go_wp2
  go_ret
  exact⟨rfl,rfl⟩
 |false=>
 have t4:((b.toNat:Int)==13)=false:=e4.trans h4
 cases h5:(b==32) with
 |true=>
  have t5:((b.toNat:Int)==32)=true:=e5.trans h5;clear e1 e2 e3 e4 e5 h1 h2 h3 h4 h5
  go_enter Tryz.func166,Tryz.ntmps166
  go_wp2
  go_ret
  exact⟨rfl,rfl⟩
 |false=>
  have t5:((b.toNat:Int)==32)=false:=e5.trans h5;clear e1 e2 e3 e4 e5 h1 h2 h3 h4 h5
  go_enter Tryz.func166,Tryz.ntmps166
  go_wp2
  go_ret
  exact⟨rfl,rfl⟩
theorem df_(l:List UInt8)(w:World)(h:l.length<=1000000) :
  Calls Tryz.prog 113 #[.string ⟨l.toArray⟩] w fun e w'=>e=.returned (.string ⟨(U.rep l).toArray⟩)/\Below w.heap.size w w':=by
 have h2:=T.refRepair ⟨l.toArray⟩ w (by rw[H.aM_];omega);have hd:(⟨l.toArray⟩:ByteArray).data.toList=l:=by simp
 rw[hd]at h2;exact h2
theorem iB_{s:List UInt8}{i:Nat}(hi:i<s.length)(h:kD_ s[i]=true):cD_ s=false:=by
 unfold cD_;have:s.all (fun c=>!kD_ c)=false:=by
  rw[List.all_eq_false];exact⟨s[i],List.getElem_mem hi,by simp[h]⟩
 rw[this];simp
theorem mB_{s:List UInt8}{i:Nat}(hi:i<s.length)(h:(s.take i).all (fun c=>!kD_ c)=true)(hb:kD_ s[i]=false):(s.take (i+1)).all (fun c=>!kD_ c)=true:=by
 rw[List.take_add_one,List.getElem?_eq_getElem hi,List.all_append,h];simp[hb]
theorem gG_(s:List UInt8)(w:World)(hs:s.length<=100000) :
  Calls Tryz.prog 152 #[.string ⟨s.toArray⟩] w fun e w'=>e=.returned (.bool (cD_ s))/\Below w.heap.size w w':=by
 obtain⟨S,hS⟩:∃S:ByteArray,S=⟨s.toArray⟩:=⟨_,rfl⟩;rw[<-hS];have hsz:S.size=s.length:=by rw[hS];exact H.aM_ s
 have HGet:Hid (∀i (h:i<s.length) (h':i<S.size),S[i]'h'=s[i]):=hi_ (by subst hS;exact fun i h h'=>rfl);have QR:Hid (∀W,Calls Tryz.prog 113 #[.string S] W fun e w'=>e=.returned (.string ⟨(U.rep s).toArray⟩)/\Below W.heap.size W w'):=hi_ (by rw[hS];exact fun W=>df_ s W (by omega));have HEq:Hid (((⟨(U.rep s).toArray⟩:ByteArray).toList==S.toList)=decide (U.rep s=s)):=hi_ (by rw[hS,Lib.toList_data,Lib.toList_data,Bool.eq_iff_iff];simp);have HEm:Hid ((S.toList==[])=s.isEmpty):=hi_ (by rw[hS,Lib.toList_data];cases s<;>simp);clear hS
 go_enter Tryz.func152,Tryz.ntmps152
 go_wp2_with fail
 go_loopw [3] (fun v3 wr=>∃i:Nat,v3=.int .i64 (i:Nat)/\i<=s.length/\wr=w/\Hid ((s.take i).all (fun c=>!kD_ c)=true)) (fun v3 _=>s.length-(Go.RowKit.intOf v3).toNat)
 case atStart=>exact⟨0,rfl,Nat.zero_le _,rfl,hi_ (by simp)⟩
 case round=>
  obtain⟨i,rfl,hi,rfl,HA⟩:=hrel
  rcases Nat.lt_or_ge i s.length with hlt|hge
  ·have hii:(i:Int)<(s.length:Int):=by omega
   have HStop:=hi_ (fun(hb:kD_ s[i]=true)=>iB_ hlt hb);have HGo:=hi_ (fun(hb:kD_ s[i]=false)=>mB_ hlt HA.out hb);have hc:=HGet.out i hlt (by rw[hsz];exact hlt);generalize s[i]=c at *;go_upto_region 5 with fail
   clear hc;have QS:=hi_ (mI_ c wr);have e2:=c5_ c 47 (by omega);have e3:=c5_ c 62 (by omega);have HBd:Hid (kD_ c=(spB c || c==47 || c==62 || (decide (65<=c.toNat) && decide (c.toNat<=90)))):=hi_ rfl;have d4:decide (65<=c.toNat)=decide ((65:Int)<=(c.toNat:Int)):=decide_eq_decide.2 (by omega);have d5:decide (c.toNat<=90)=decide ((c.toNat:Int)<=90):=decide_eq_decide.2 (by omega);rw[d4,d5]at HBd;have e2':(c==47)=((c.toNat:Int)==47):=e2.symm;have e3':(c==62)=((c.toNat:Int)==62):=e3.symm;rw[e2',e3']at HBd;clear e2 e3 e2' e3' d4 d5;generalize spB c=b1 at *;have wq:IntKind.i64.wrap ((i:Int)+1)=(i:Int)+1:=IntWalk.i64_in _ (by omega);generalize h2:((c.toNat:Int)==47)=b2 at *;generalize h3:((c.toNat:Int)==62)=b3 at *
   generalize h4:decide ((65:Int)<=(c.toNat:Int))=b4 at *;generalize h5:decide ((c.toNat:Int)<=90)=b5 at *
   cases b1 with
   |true=>
    have HF:=hi_ (HStop.out (by rw[HBd.out];rfl));go_wp2_with fail
    refine QS.out.mono ?_;rintro e w1 ⟨rfl,rfl⟩;go_wp2_with fail
    go_ret
    exact⟨H.ao_ HF.out.symm,br_⟩
   |false=>
    go_wp2_with fail
    refine QS.out.mono ?_;rintro e w1 ⟨rfl,rfl⟩
    cases b2 with
    |true=>
     have HF:=hi_ (HStop.out (by rw[HBd.out];rfl));go_wp2_with fail
     go_ret
     exact⟨H.ao_ HF.out.symm,br_⟩
    |false=>
    cases b3 with
    |true=>
     have HF:=hi_ (HStop.out (by rw[HBd.out];rfl));go_wp2_with fail
     go_ret
     exact⟨H.ao_ HF.out.symm,br_⟩
    |false=>
    cases b4 with
    |false=>
     have h4':¬(65:Int)<=(c.toNat:Int):=of_decide_eq_false h4;have HG:=hi_ (HGo.out (by rw[HBd.out];rfl));go_wp2_with fail
     go_roundw
     case rel=>exact⟨i+1,by go_num,by omega,trivial,HG⟩
     case measure=>simp[Go.RowKit.intOf];omega
    |true=>
     have h4':(65:Int)<=(c.toNat:Int):=of_decide_eq_true h4
     cases b5 with
     |true=>
      have h5':(c.toNat:Int)<=90:=of_decide_eq_true h5;have HF:=hi_ (HStop.out (by rw[HBd.out];rfl));go_wp2_with fail
      go_ret
      exact⟨H.ao_ HF.out.symm,br_⟩
     |false=>
      have h5':¬(c.toNat:Int)<=90:=of_decide_eq_false h5;have HG:=hi_ (HGo.out (by rw[HBd.out];rfl));go_wp2_with fail
      go_roundw
      case rel=>exact⟨i+1,by go_num,by omega,trivial,HG⟩
      case measure=>simp[Go.RowKit.intOf];omega
  ·have hie:i=s.length:=by omega
   have HN:Hid (cD_ s=(!s.isEmpty && decide (U.rep s=s))):=hi_ (by
    have h1:=HA.out;rw[hie,List.take_length]at h1;unfold cD_;rw[h1];simp)
   generalize s.isEmpty=b1 at *;generalize decide (U.rep s=s)=b2 at *;generalize (⟨(U.rep s).toArray⟩:ByteArray)=S2 at *;have hem:=HEm.out;have heq:=HEq.out;have hnl:¬((i:Int)<(s.length:Int)):=by omega
   clear HA HEm HEq HGet hie
   cases b1 with
   |true=>
    have HF:Hid (cD_ s=false):=hi_ (by rw[HN.out];rfl);go_wp2_with fail
    go_ret
    exact⟨H.ao_ HF.out.symm,br_⟩
   |false=>
    have HF:Hid (cD_ s=b2):=hi_ (by rw[HN.out];simp);go_wp2_with fail
    refine(QR.out _).mono ?_;rintro e w1 ⟨rfl,b⟩;have HB:=hi_ b;clear b;go_wp2_with fail
    go_ret
    exact⟨H.ao_ HF.out.symm,HB.out⟩
theorem m3_(s:List UInt8)(w:World)(hs:s.length<=100000) :
  Calls Tryz.prog 111 #[.string ⟨s.toArray⟩] w fun e w'=>e=.returned (.bool (dp_ s))/\Below w.heap.size w w':=by
 obtain⟨S,hS⟩:∃S:ByteArray,S=⟨s.toArray⟩:=⟨_,rfl⟩;rw[<-hS];have hsz:S.size=s.length:=by rw[hS];exact H.aM_ s
 have HGet:Hid (∀i (h:i<s.length) (h':i<S.size),S[i]'h'=s[i]):=hi_ (by subst hS;exact fun i h h'=>rfl);have QA:Hid (∀W,Calls Tryz.prog 152 #[.string S] W fun e w'=>e=.returned (.bool (cD_ s))/\Below W.heap.size W w'):=hi_ (by rw[hS];exact fun W=>gG_ s W hs);have HEm:Hid ((S.toList==[])=s.isEmpty):=hi_ (by rw[hS,Lib.toList_data];cases s<;>simp);clear hS;have hem:=HEm.out;have HV:Hid (dp_ s=((match s with | []=>false|c :: _=>decide (97<=c.toNat) && decide (c.toNat<=122)) && cD_ s)):=hi_ rfl;generalize dp_ s=V at *;generalize cD_ s=N at *
 cases s with
 |nil=>
  have hem2:(S.toList==[])=true:=hem;have HF:Hid (V=false):=hi_ (by rw[HV.out];rfl);clear hem
  go_enter Tryz.func111,Tryz.ntmps111
  go_wp2_with fail
  go_ret
  exact⟨H.ao_ HF.out.symm,br_⟩
 |cons c t=>
  have hem2:(S.toList==[])=false:=hem;have hl1:0<S.size:=by rw[hsz];simp
  have hl0:(0:Int)<(S.size:Int):=by omega
  have hc:S[0]'hl1=c:=HGet.out 0 (by simp) hl1;have d4:decide (97<=c.toNat)=decide ((97:Int)<=(c.toNat:Int)):=decide_eq_decide.2 (by omega);have d5:decide (c.toNat<=122)=decide ((c.toNat:Int)<=122):=decide_eq_decide.2 (by omega);have HV2:Hid (V=((decide ((97:Int)<=(c.toNat:Int)) && decide ((c.toNat:Int)<=122)) && N)):=hi_ (by rw[HV.out,<-d4,<-d5]);generalize h4:decide ((97:Int)<=(c.toNat:Int))=b4 at *;generalize h5:decide ((c.toNat:Int)<=122)=b5 at *;clear hem d4 d5 HV hsz HGet
  go_enter Tryz.func111,Tryz.ntmps111
  cases b4 with
  |false=>
   have h4':¬(97:Int)<=(c.toNat:Int):=of_decide_eq_false h4;have HF:Hid (V=false):=hi_ (by rw[HV2.out];rfl);go_wp2_with fail
   go_ret
   exact⟨H.ao_ HF.out.symm,br_⟩
  |true=>
   have h4':(97:Int)<=(c.toNat:Int):=of_decide_eq_true h4
   cases b5 with
   |false=>
    have h5':¬(c.toNat:Int)<=122:=of_decide_eq_false h5;have HF:Hid (V=false):=hi_ (by rw[HV2.out];rfl);go_wp2_with fail
    go_ret
    exact⟨H.ao_ HF.out.symm,br_⟩
   |true=>
    have h5':(c.toNat:Int)<=122:=of_decide_eq_true h5;have HF:Hid (V=N):=hi_ (by rw[HV2.out];rfl);go_wp2_with fail
    refine(QA.out _).mono ?_;rintro e w1 ⟨rfl,b⟩;have HB:=hi_ b;clear b;go_wp2_with fail
    go_ret
    exact⟨H.ao_ HF.out.symm,HB.out⟩
theorem lN_{s:List UInt8}{i:Nat}(h1:1<=i)(hi:i<s.length)(h:(s[i]==61)=true):bK_ s=false:=by
 unfold bK_;have:(s.drop 1).all (fun c=>!(c==61))=false:=by
  rw[List.all_eq_false];refine⟨s[i],?_,by rw[h];simp⟩;rw[List.mem_iff_getElem?];exact⟨i-1,by rw[List.getElem?_drop,show 1+(i-1)=i by omega];exact List.getElem?_eq_getElem hi⟩
 rw[this];rfl
theorem cQ_{s:List UInt8}{i:Nat}(h1:1<=i)(hi:i<s.length)(h:((s.take i).drop 1).all (fun c=>!(c==61))=true)(hb:(s[i]==61)=false):((s.take (i+1)).drop 1).all (fun c=>!(c==61))=true:=by
 rw[List.take_add_one,List.getElem?_eq_getElem hi,List.drop_append_of_le_length (by rw[List.length_take];omega),List.all_append,h];simp[hb]
theorem lv_(s:List UInt8)(w:World)(hs:s.length<=100000) :
  Calls Tryz.prog 112 #[.string ⟨s.toArray⟩] w fun e w'=>e=.returned (.bool (bK_ s))/\Below w.heap.size w w':=by
 obtain⟨S,hS⟩:∃S:ByteArray,S=⟨s.toArray⟩:=⟨_,rfl⟩;rw[<-hS];have hsz:S.size=s.length:=by rw[hS];exact H.aM_ s
 have HGet:Hid (∀i (h:i<s.length) (h':i<S.size),S[i]'h'=s[i]):=hi_ (by subst hS;exact fun i h h'=>rfl);have QA:Hid (∀W,Calls Tryz.prog 152 #[.string S] W fun e w'=>e=.returned (.bool (cD_ s))/\Below W.heap.size W w'):=hi_ (by rw[hS];exact fun W=>gG_ s W hs);clear hS
 go_enter Tryz.func112,Tryz.ntmps112
 go_wp2_with fail
 go_loopw [3] (fun v3 wr=>∃i:Nat,v3=.int .i64 (i:Nat)/\1<=i/\(i<=s.length\/i=1)/\wr=w/\Hid (((s.take i).drop 1).all (fun c=>!(c==61))=true)) (fun v3 _=>s.length-(Go.RowKit.intOf v3).toNat)
 case atStart => exact ⟨1, rfl, nl_, Or.inr rfl, rfl, hi_ (by
   have:(s.take 1).drop 1=[]:=List.drop_eq_nil_of_le (by rw[List.length_take];omega);rw[this];rfl)⟩
 case round=>
  obtain⟨i,rfl,h1,hi,rfl,HA⟩:=hrel
  rcases Nat.lt_or_ge i s.length with hlt|hge
  ·have hii:(i:Int)<(s.length:Int):=by omega
   have HStop:=hi_ (fun(hb:(s[i]==61)=true)=>lN_ h1 hlt hb);have HGo:=hi_ (fun(hb:(s[i]==61)=false)=>cQ_ h1 hlt HA.out hb);have hc:=HGet.out i hlt (by rw[hsz];exact hlt);generalize s[i]=c at *;have e2:=c5_ c 61 (by omega);have e2':(c==61)=((c.toNat:Int)==61):=e2.symm;rw[e2']at HStop HGo;have wq:IntKind.i64.wrap ((i:Int)+1)=(i:Int)+1:=IntWalk.i64_in _ (by omega);clear e2 e2';generalize h2:((c.toNat:Int)==61)=b2 at *
   cases b2 with
   |true=>
    have HF:=hi_ (HStop.out rfl);go_wp2_with fail
    go_ret
    exact⟨H.ao_ HF.out.symm,br_⟩
   |false=>
    have HG:=hi_ (HGo.out rfl);go_wp2_with fail
    go_roundw
    case rel=>exact⟨i+1,by go_num,by omega,by omega,trivial,HG⟩
    case measure=>simp[Go.RowKit.intOf];omega
  ·have HN:Hid (bK_ s=cD_ s):=hi_ (by
    have h2:=HA.out;rw[List.take_of_length_le hge]at h2;unfold bK_;rw[h2];simp)
   have hnl:¬((i:Int)<(s.length:Int)):=by omega
   clear HA HGet;go_wp2_with fail
   refine(QA.out _).mono ?_;rintro e w1 ⟨rfl,b⟩;have HB:=hi_ b;clear b;go_wp2_with fail
   go_ret
   exact⟨H.ao_ HN.out.symm,HB.out⟩
theorem ac_.slice{α:Type}{c:α->List Value}{w:World}{B size:Nat}{e:TypeId}{v:Value}{l:List α}(h:ac_ c B e size w v l):∃ao cap,v=.slice ao l.length cap:=by
 rcases h.2 with⟨h1,h2⟩|⟨g,cap,cur,h1,_⟩
 ·exact⟨none,0,by rw[h1,h2]⟩
 ·exact⟨_,cap,h1⟩
theorem mFind(M:aF_)(h:Nat)(nm:List UInt8)(w:World)(hM:ab_ w M)(hh:h<M.nodes.length)(hl:(nd M.m h).attrs.length<=1000000) :
  Calls Tryz.prog 128 #[.pointer (some ⟨M.mb,0,none⟩),.int .i64 h,.string ⟨nm.toArray⟩] w fun e w'=>e=.returned (.int .i64 (g9_ (bN_ M.m h nm)))/\w=w':=by
 obtain⟨c0,l0,l1⟩:=hM.top;have k2:=(hM.cell hh).2.2.1;have n1:(h:Int)<(M.nodes.length:Int):=by omega
 have hfew:=hM.few;have hrow:=hM.attrsRow hh;obtain⟨ao,cap,hv⟩:=ac_.slice hrow;rw[hv]at k2 hrow;obtain⟨S,hS⟩:∃S:ByteArray,S=⟨nm.toArray⟩:=⟨_,rfl⟩;rw[<-hS];have HEq:Hid (∀x:List UInt8,((⟨x.toArray⟩:ByteArray).toList==S.toList)=(x==nm)):=hi_ (fun x=>by rw[hS,Lib.toList_data,Lib.toList_data]);have HR:Hid (g9_ (bN_ M.m h nm)=g9_ ((nd M.m h).attrs.findIdx? (fun a=>a.1==nm))):=hi_ rfl;generalize g9_ (bN_ M.m h nm)=R at *;generalize (nd M.m h).attrs=l at *;have HA:=hi_ hrow;clear hM hv hrow hS
 go_enter Tryz.func128,Tryz.ntmps128
 go_wp2_with fail
 go_loopw [7] (fun v7 wr=>∃i:Nat,v7=.int .i64 (i:Nat)/\i<=l.length/\wr=w/\Hid (∀j a,j<i->l[j]?=some a->(a.1==nm)=false)) (fun v7 _=>l.length-(Go.RowKit.intOf v7).toNat)
 case atStart=>exact⟨0,rfl,Nat.zero_le _,rfl,hi_ (fun j a hj=>by omega)⟩
 case round=>
  obtain⟨i,rfl,hi,rfl,HN⟩:=hrel
  rcases Nat.lt_or_ge i l.length with hlt|hge
  ·have hii:(i:Int)<(l.length:Int):=by omega
   obtain⟨g0,cap',hv,hgb,hgl,_⟩:=a1_ HA.out (by omega);injection hv with e1 _ e3
   subst e1 e3;have hc0:=(ac_.cell aq_ HA.out hlt (k:=0) (by omega)).1;have HD:Hid (l.drop i=l[i] :: l.drop (i+1)):=hi_ (List.drop_eq_getElem_cons hlt);have HG:Hid (l[i]?=some l[i]):=hi_ (List.getElem?_eq_getElem hlt);generalize l[i]=a at *;obtain⟨x,y⟩:=a;have k0:wr.cell? ⟨g0,i*2,none⟩=some (.string ⟨x.toArray⟩):=hc0;have heq:=HEq.out x;have wq:IntKind.i64.wrap ((i:Int)+1)=(i:Int)+1:=IntWalk.i64_in _ (by omega);generalize (⟨x.toArray⟩:ByteArray)=X at *;clear hc0
   cases hq:(x==nm) with
   |true=>
    rw[hq]at heq;have HF:Hid (R=(i:Int)):=hi_ (by rw[HR.out,eH_ HN.out,HD.out,List.findIdx?_cons];dsimp only;rw[hq];simp[g9_]);clear hq HD;go_wp2_with fail
    go_ret
    exact⟨ay_ HF.out.symm,rfl⟩
   |false=>
    rw[hq]at heq;have HN2:Hid (∀j a,j<i+1->l[j]?=some a->(a.1==nm)=false):=hi_ (fun j a hj ha=>by
     by_cases e:j=i
     ·subst e
      rw[HG.out]at ha;injection ha with ha
      rw[<-ha];exact hq
     ·exact HN.out j a (by omega) ha)
    clear hq HD;go_wp2_with fail
    go_roundw
    case rel=>exact⟨i+1,by go_num,by omega,trivial,HN2⟩
    case measure=>simp[Go.RowKit.intOf];omega
  ·have hnl:¬(i:Int)<(l.length:Int):=by omega
   have HF:Hid (R=-1):=hi_ (by rw[HR.out,eH_ HN.out,List.drop_eq_nil_of_le (by omega)];rfl);go_wp2_with fail
   go_ret
   exact⟨ay_ HF.out.symm,rfl⟩
structure f7_(w:World)(M:aF_)(i:Nat):Prop where
 blk:Blk M.mb #[.slice (some ⟨M.g,0,none⟩) M.nodes.length M.cap] 102 w
 row:ac_ bS_ M.B 105 7 w (.slice (some ⟨M.g,0,none⟩) M.nodes.length M.cap) M.nodes
 few:M.nodes.length<=1000000
 bb:M.B<=M.mb
 kids:∀x,x∈M.nodes->b4_ M.B w x.kv x.n.kids
 attrs:∀j,j<M.nodes.length->j≠i->ac_ ai_ M.B 143 2 w (M.at_ j).av (M.at_ j).n.attrs
 kapart:∀i j,i<M.nodes.length->j<M.nodes.length->i≠j->∀g,(M.at_ i).kv.ownBlock=some g->(M.at_ j).kv.ownBlock≠some g
 aapart:∀i j,i<M.nodes.length->j<M.nodes.length->i≠j->∀g,(M.at_ i).av.ownBlock=some g->(M.at_ j).av.ownBlock≠some g
theorem ab_.rest{w w':World}{M:aF_}{i:Nat}(h:ab_ w M)(hi:i<M.nodes.length)(f:H.Frame (fun k=>(M.at_ i).av.ownBlock=some k) w w'):f7_ w' M i:=by
 have ha:=h.attrs _ (aF_.at_mem hi).2;refine⟨h.blk.frame f (fun e=>ak_ ha h.blk (by decide) e),ah_ h.row f (fun g hg e=>aU_ ha h.row (by decide) e hg),h.few,h.bb,fun x hx=>ah_ (h.kids x hx) f (fun g hg e=>aU_ ha (h.kids x hx) (by decide) e hg),fun j hj hne=>ah_ (h.attrs _ (aF_.at_mem hj).2) f (fun g hg e=>h.aapart i j hi hj (fun e2=>hne e2.symm) g e hg),h.kapart,h.aapart⟩
theorem dW_{M:aF_}{i:Nat}{f:bX_->bX_}(x:bX_)(hx:x∈(M.modN i f).nodes):∃j,j<M.nodes.length/\(M.modN i f).at_ j=x:=by
 obtain⟨j,hj⟩:=List.mem_iff_getElem?.1 hx;have hjl:j<(M.modN i f).nodes.length:=by
  rcases Nat.lt_or_ge j (M.modN i f).nodes.length with h5|h5
  ·exact h5
  ·rw[List.getElem?_eq_none h5]at hj;cases hj
 refine⟨j,by rw[<-ct_ M i f];exact hjl,?_⟩;rw[(aF_.at_mem hjl).1];rw[List.getElem?_eq_getElem hjl]at hj;injection hj
theorem f7_.same{w:World}{M:aF_}{i:Nat}(h:f7_ w M i)(hi:i<M.nodes.length){al:List BB}(hr:ac_ ai_ M.B 143 2 w (M.at_ i).av al) :
  ab_ w (M.modN i fun x=>{ x with n:={ x.n with attrs:=al } }):=by
 have hlen:=ct_ M i (fun x=>{ x with n:={ x.n with attrs:=al } });have hat:=e3_ (f:=fun x=>{ x with n:={ x.n with attrs:=al } }) hi;have hkv:∀j,((M.modN i fun x=>{ x with n:={ x.n with attrs:=al } }).at_ j).kv=(M.at_ j).kv:=fun j=>by rw[hat];split<;>rfl
 have hav:∀j,((M.modN i fun x=>{ x with n:={ x.n with attrs:=al } }).at_ j).av=(M.at_ j).av:=fun j=>by rw[hat];split<;>rfl
 refine⟨?_,?_,by rw[hlen];exact h.few,h.bb,fun x hx=>?_,fun x hx=>?_,fun a b ha hb hne g hg=>?_,fun a b ha hb hne g hg=>?_⟩
 ·rw[hlen];exact h.blk
 ·have e:(M.modN i fun x=>{ x with n:={ x.n with attrs:=al } }).nodes.flatMap bS_=M.nodes.flatMap bS_:=by
   unfold aF_.modN;have:∀(l:List bX_) (i:Nat),(l.modify i (fun x=>{ x with n:={ x.n with attrs:=al } })).flatMap bS_=l.flatMap bS_:=by
    intro l
    induction l with
    |nil=>intro i;simp
    |cons y t ih=>
     intro i
     cases i with
     |zero=>simp[bS_]
     |succ i=>rw[List.modify_succ_cons,List.flatMap_cons,List.flatMap_cons,ih]
   exact this _ _
  unfold ac_;rw[hlen,e];exact h.row
 ·obtain⟨j,hj,rfl⟩:=dW_ x hx
  have h1:=h.kids _ (aF_.at_mem hj).2;rw[hat]
  split<;>exact h1
 ·obtain⟨j,hj,rfl⟩:=dW_ x hx
  rw[hat]
  by_cases e:j=i
  ·rw[if_pos e,e];exact hr
  ·rw[if_neg e];exact h.attrs j hj e
 ·rw[hkv]at hg ⊢
  exact h.kapart a b (by rw[<-hlen];exact ha) (by rw[<-hlen];exact hb) hne g hg
 ·rw[hav]at hg ⊢
  exact h.aapart a b (by rw[<-hlen];exact ha) (by rw[<-hlen];exact hb) hne g hg
theorem f7_.put{w:World}{M:aF_}{i:Nat}(h:f7_ w M i)(hi:i<M.nodes.length){av:Value}{al:List BB}(hr:ac_ ai_ M.B 143 2 w av al)(hap:∀j,j<M.nodes.length->j≠i->∀g,av.ownBlock=some g->(M.at_ j).av.ownBlock≠some g) :
  ab_ (w.setCell ⟨M.g,i*7+2,none⟩ av) (M.modN i fun x=>{ x with av:=av,n:={ x.n with attrs:=al } }):=by
 have hlen:=ct_ M i (fun x=>{ x with av:=av,n:={ x.n with attrs:=al } });have hat:=e3_ (f:=fun x=>{ x with av:=av,n:={ x.n with attrs:=al } }) hi;have hkv:∀j,((M.modN i fun x=>{ x with av:=av,n:={ x.n with attrs:=al } }).at_ j).kv=(M.at_ j).kv:=fun j=>by rw[hat];split<;>rfl
 have hg1:M.mb≠M.g:=fun e=>ak_ h.row h.blk (by decide) (by rw[e];rfl);refine⟨?_,?_,by rw[hlen];exact h.few,h.bb,fun x hx=>?_,fun x hx=>?_,fun a b ha hb hne g hg=>?_,fun a b ha hb hne g hg=>?_⟩
 ·rw[hlen];exact h.blk.far hg1 _ _
 ·exact ac_.store aT_ h.row hi (by omega) av _ rfl
 ·obtain⟨j,hj,rfl⟩:=dW_ x hx
  have h1:=h.kids _ (aF_.at_mem hj).2;have h2:=au_ h1 (fun e=>aU_ h1 h.row (by decide) e rfl) (i*7+2) av;rw[hat]
  split<;>exact h2
 ·obtain⟨j,hj,rfl⟩:=dW_ x hx
  rw[hat]
  by_cases e:j=i
  ·rw[if_pos e]
   exact au_ hr (fun e=>aU_ hr h.row (by decide) e rfl) (i*7+2) av
  ·rw[if_neg e]
   have h1:=h.attrs j hj e;exact au_ h1 (fun e=>aU_ h1 h.row (by decide) e rfl) (i*7+2) av
 ·rw[hkv]at hg ⊢
  exact h.kapart a b (by rw[<-hlen];exact ha) (by rw[<-hlen];exact hb) hne g hg
 ·have ha':a<M.nodes.length:=by rw[<-hlen];exact ha
  have hb':b<M.nodes.length:=by rw[<-hlen];exact hb
  rw[hat]at hg ⊢
  by_cases ea:a=i
  ·rw[if_pos ea]at hg
   rw[if_neg (fun e=>hne (ea.trans e.symm))];exact hap b hb' (fun e=>hne (ea.trans e.symm)) g hg
  ·rw[if_neg ea]at hg
   by_cases eb:b=i
   ·rw[if_pos eb]
    exact fun h5=>hap a ha' ea g h5 hg
   ·rw[if_neg eb]
    exact h.aapart a b ha' hb' hne g hg
theorem ev_{base:Nat}{w:World}{r:Rec}{cs:Array Value}(hc:cs=(aZ_ r).toArray)(hb:base<=w.heap.size):aJ_ base (w.alloc (.cells cs 71)) (.slice (some ⟨w.heap.size,0,none⟩) 1 1) [r]:=by
 have hown:=World.ownsRow_lit (e:=71) (base:=base) (size:=11) w (aZ_ r).toArray 1 hb (by unfold maxLen;omega) (by simp[ed_]);unfold aJ_ ac_;rw[hc,show[r].flatMap aZ_=aZ_ r by simp];simpa using hown
theorem eC_:(Tryz.prog.info? 143).map (fun i=>(i.zero,i.size,i.bytes))=some (some (.agg #[.string ⟨#[]⟩,.string ⟨#[]⟩]),2,32):=by kernel_rfl
theorem j2_(m:aa_)(h:Nat)(nm vl:List UInt8) :
  ((nd m h).kind≠2->aD_ none m h nm vl=([],10,m))/\((nd m h).kind=2->bK_ nm=false->aD_ none m h nm vl=([],1,m)) ∧
  ((nd m h).kind=2->bK_ nm=true->bN_ m h nm=none->aD_ none m h nm vl=([bg_ h nm [] false],0,upd m h fun x=>{ x with attrs:=x.attrs++[(nm,U.rep vl)] })) ∧
  (∀i,(nd m h).kind=2->bK_ nm=true->bN_ m h nm=some i->aD_ none m h nm vl=([bg_ h nm (((nd m h).attrs[i]?.map (·.2)).getD []) true],0,upd m h fun x=>{ x with attrs:=x.attrs.set i (nm,U.rep vl) })):=by
 refine⟨fun h1=>?_,fun h1 h2=>?_,fun h1 h2 h3=>?_,fun i h1 h2 h3=>?_⟩
 ·unfold aD_;rw[if_pos h1]
 ·unfold aD_;rw[if_neg (by simp[h1]),if_pos h2]
 ·unfold aD_;rw[if_neg (by simp[h1]),if_neg (by simp[h2]),h3];simp
 ·unfold aD_;rw[if_neg (by simp[h1]),if_neg (by simp[h2]),h3]
theorem i4_{m:aa_}{i:Nat}{f g:G.Node->G.Node}(hi:i<m.length)(h:f (nd m i)=g (nd m i)):upd m i f=upd m i g:=by
 refine ew_ (by simp[upd]) fun j=>?_;rw[cC_ hi,cC_ hi]
 by_cases e:j=i
 ·rw[if_pos e,if_pos e,e,h]
 ·rw[if_neg e,if_neg e]
theorem m1_(M:aF_)(h:Nat)(nm vl:List UInt8)(w:World)(hM:ab_ w M)(hh:h<M.nodes.length)(hl:(nd M.m h).attrs.length<=100000)(hn:nm.length<=100000)(hv:vl.length<=100000) :
  Calls Tryz.prog 66 #[.pointer (some ⟨M.mb,0,none⟩),.int .i64 h,.string ⟨nm.toArray⟩,.string ⟨vl.toArray⟩] w fun e w'=>∃v M',e=.returned (.tuple #[v,.int .i64 ((aD_ none M.m h nm vl).2.1:Nat)])/\H.Frame M.foot w w'/\ab_ w' M'/\M'.m=(aD_ none M.m h nm vl).2.2/\aO_ w M M'/\aJ_ w.heap.size w' v (aD_ none M.m h nm vl).1:=by
 obtain⟨c0,l0,l1⟩:=hM.top;have k0:=(hM.cell hh).1;have n1:(h:Int)<(M.nodes.length:Int):=by omega
 have hfew:=hM.few;have HM:=hi_ hM;have QH:=hi_ (fun W=>lv_ nm W hn);have QR:=hi_ (fun W=>df_ vl W (by omega));have QF:=hi_ (fun W (hb:Below w.heap.size w W)=>mFind M h nm W (hM.below hb) hh (by omega));have HSC:=hi_ (j2_ M.m h nm vl);obtain⟨R,hR⟩:∃R,R=aD_ none M.m h nm vl:=⟨_,rfl⟩;rw[<-hR]at HSC ⊢;generalize hkd:(nd M.m h).kind=kd at *;clear hM hR hkd
 go_enter Tryz.func66,Tryz.ntmps66
 by_cases hk:kd=2
 ·subst hk
  go_wp2_with fail
  refine(QH.out _).mono ?_;rintro e w1 ⟨rfl,b1⟩;have HB1:=hi_ b1;clear b1 QH
  cases hok:bK_ nm with
  |false=>
   have HRs:=hi_ (HSC.out.2.1 trivial hok);clear hok;go_wp2_with fail
   refine bodyPost_ret (v:=.tuple #[.slice none 0 0,.int .i64 1]) (by simp[results,Tryz.results66,go_sem]) rfl ⟨.slice none 0 0,M,by rw[HRs.out];rfl,H.Frame.of HB1.out,HM.out.below HB1.out,by rw[HRs.out],aO_.refl _ _,by rw[HRs.out];exact aJ_.nil _ _⟩
  |true=>
   have HS3:=hi_ (HSC.out.2.2.1 trivial hok);have HS4:=hi_ (fun i=>HSC.out.2.2.2 i trivial hok);clear hok;go_wp2_with fail
   refine(QR.out _).mono ?_;rintro e w2 ⟨rfl,b2⟩;have HB2:=bt_ HB1 b2;clear b2 HB1 QR;obtain⟨rv,hrv⟩:∃rv,rv=U.rep vl:=⟨_,rfl⟩;rw[<-hrv]at HS3 HS4 ⊢;clear hrv;have Q3:=hi_ (QF.out w2 HB2.out);clear QF HSC;go_wp2_with fail
   refine Q3.out.mono ?_;rintro e w2' ⟨rfl,rfl⟩;have HM2:=hi_ (HM.out.below HB2.out);obtain⟨c0',l0',l1'⟩:=HM2.out.top;have k2:=(HM2.out.cell hh).2.2.1;have hrow:=HM2.out.attrsRow hh;obtain⟨ao,cap,hav⟩:=ac_.slice hrow;have f2:=(ac_.cell aT_ HM2.out.row hh (k:=2) (by omega)).2;rw[hav]at k2 hrow;have HAv:=hi_ hav;have HRow:=hi_ hrow;clear c0 l0 l1 k0 hrow hav Q3
   cases hat:bN_ M.m h nm with
   |none=>
    have HRs:=hi_ (HS3.out hat);clear hat HS3 HS4;rw[show g9_ none=(-1:Int)from rfl];go_upto_region 12 with fail
    have HRec:=hi_ (Blk.new w2 #[.int .i64 3,.int .i64 h,.int .i64 (-1),.int .i64 (-1),.int .i64 (-1),.int .i64 0,.string ⟨nm.toArray⟩,.string ⟨#[]⟩,.bool false,.int .i64 0,.int .i64 0] 71);have hbE:Below w2.heap.size w2 (w2.alloc (.cells #[.int .i64 3,.int .i64 h,.int .i64 (-1),.int .i64 (-1),.int .i64 (-1),.int .i64 0,.string ⟨nm.toArray⟩,.string ⟨#[]⟩,.bool false,.int .i64 0,.int .i64 0] 71)):=(Below.refl _ w2).alloc (nl_) _;have HBE:=bt_ HB2 hbE;have HME:=hi_ (HM.out.below HBE.out);have HRowE:=hi_ (own_below HRow.out hbE);have HA2:Hid (w.heap.size<=w2.heap.size):=hi_ HB2.out.size;clear hbE k2 f2 c0' l0' l1';generalize hEE:w2.heap.size=E at *;clear hEE
    generalize w2.alloc (.cells #[.int .i64 3,.int .i64 h,.int .i64 (-1),.int .i64 (-1),.int .i64 (-1),.int .i64 0,.string ⟨nm.toArray⟩,.string ⟨#[]⟩,.bool false,.int .i64 0,.int .i64 0] 71)=wE at *;obtain⟨c0,l0,l1⟩:=HME.out.top;have k2:=(HME.out.cell hh).2.2.1;have f2:=(ac_.cell aT_ HME.out.row hh (k:=2) (by omega)).2;rw[HAv.out]at k2;obtain⟨i0,hi0,hz0,hz1,hz2⟩:=info_parts eC_;have HHn:Hid ((M.at_ h).av.ownBlock=(Value.slice ao (nd M.m h).attrs.length cap).ownBlock):=hi_ (by rw[HAv.out]);generalize hal:(nd M.m h).attrs=al at *;have HAl:=hi_ hal
    have hne1:∀g,(Value.slice ao al.length cap).ownBlock=some g->g≠M.mb/\g≠M.g/\g≠E:=fun g hg=>⟨fun e=>ak_ HRowE.out HME.out.blk (by decide) (by rw[hg,e]),fun e=>aU_ HRowE.out HME.out.row (by decide) hg (by rw[e];rfl),fun e=>ak_ HRowE.out HRec.out (by decide) (by rw[hg,e])⟩;have HNe:=hi_ hne1;clear hal hne1
    go_region_law ((refine step_append_lies _ (by rfl) _ _ _ (by rfl) M.B 143 i0 _ 2 32 Tryz.underlying103 hi0 hz0 hz1 hz2 rfl (by omega) (.slice ao al.length cap) al.length (al.flatMap ai_) (by rfl) ((World.ownsRow.alloc HRowE.out _).drew) ⟨wE.heap.size,0,none⟩ 1 1 [.string ⟨nm.toArray⟩,.string ⟨rv.toArray⟩] (by rfl) (by rfl) (World.news_of_block (cs:=#[.string ⟨nm.toArray⟩,.string ⟨rv.toArray⟩]) (t:=143) (fr:=(0,0)) (heap_alloc_new wE _)) (by simp[Value.oneCell']) (by omega) (by unfold maxLen;omega) (by omega) (by have:=HME.out.bb;simp;omega) (wE.heap.size+1) (by simp) ?_;intro gg cap2 w5 hown5 hgrow hat5 hlt5;have hF5:H.Frame (fun k=>(M.at_ h).av.ownBlock=some k) wE w5:=H.Frame.grown (S:=fun k=>(M.at_ h).av.ownBlock=some k) (Frame.drew (Frame.alloc (H.Frame.refl _ wE) _)) hgrow (fun k hk=>Or.inl (by rw[HHn.out];exact hk));have hRs:=HME.out.rest hh hF5;have d0:=(ad_ hRs.blk).1 0;have m0:=hRs.blk.lt;have m1:=(ae_ hRs.row).1;have g2:=(ac_.cell aT_ hRs.row hh (k:=2) (by omega)).2;have j2:w5.cell? ⟨M.g,h*7+2,none⟩=some (.slice ao al.length cap):=(by rw[(ac_.cell aT_ hRs.row hh (k:=2) (by omega)).1,<-HAv.out,(aF_.at_mem hh).1];rfl)))
    all_goals (
     have HRs5:=hi_ hRs;have hB5:w.heap.size<=wE.heap.size:=HBE.out.size;have HAt5:Hid ((M.at_ h).av.ownBlock=some gg\/w.heap.size<=gg):=hi_ (by rw[HHn.out];exact hat5.imp id (fun e=>by omega));have HAt6:Hid (∀j,j<M.nodes.length->j≠h->∀g,(Value.slice (some ⟨gg,0,none⟩) (al.length+1) cap2).ownBlock=some g->(M.at_ j).av.ownBlock≠some g):=hi_ (fun j hj hne g hg e=>by
      have hgg:gg=g:=by simpa[Value.ownBlock]using hg
      subst hgg
      rcases hat5 with h5|h5
      ·exact HME.out.aapart h j hh hj (fun e2=>hne e2.symm) gg (by rw[HHn.out];exact h5) e
      ·have:=(World.ownsRow.lt (HME.out.attrs _ (aF_.at_mem hj).2) gg e).2
       omega)
     have HM6:=hi_ (hRs.put hh (av:=.slice (some ⟨gg,0,none⟩) (al.length+1) cap2) (al:=al++[(nm,rv)]) (by
      unfold ac_;rw[List.length_append,List.flatMap_append];simpa[ai_]using hown5) HAt6.out)
     have HF6:=hi_ (Frame.set (S:=M.foot) ((H.Frame.of (S:=M.foot) HBE.out).trans hF5 (fun b hb=>Or.inl (Or.inr (Or.inr ⟨_,(aF_.at_mem hh).2,Or.inr hb⟩)))) (Or.inl (Or.inr (Or.inl rfl))) (h*7+2) (.slice (some ⟨gg,0,none⟩) (al.length+1) cap2));have HRc5:=hi_ ((HRec.out.frame hF5 (fun e=>by rw[HHn.out]at e;exact(HNe.out _ e).2.2 rfl)).far (show E≠M.g from fun e=>ak_ HME.out.row HRec.out (by decide) (by rw[e];rfl)) (h*7+2) (.slice (some ⟨gg,0,none⟩) (al.length+1) cap2));have HL6:Hid (aO_ w M (M.modN h fun x=>{ x with av:=.slice (some ⟨gg,0,none⟩) (al.length+1) cap2,n:={ x.n with attrs:=al++[(nm,rv)] } })):=hi_ ⟨rfl,rfl,fun k hk=>by
      rcases b2_ hh hk with h1|h1|h1
      ·exact Or.inl h1
      ·exact Or.inl (Or.inr (Or.inr ⟨_,(aF_.at_mem hh).2,Or.inl h1⟩))
      ·have hgg:gg=k:=by
        have h1:(Value.slice (some ⟨gg,0,none⟩) (al.length+1) cap2).ownBlock=some k:=h1;simpa[Value.ownBlock]using h1
       rw[<-hgg];exact HAt5.out.imp (fun e=>Or.inr (Or.inr ⟨_,(aF_.at_mem hh).2,Or.inr e⟩)) id⟩
     have Hm6:Hid ((M.modN h fun x=>{ x with av:=.slice (some ⟨gg,0,none⟩) (al.length+1) cap2,n:={ x.n with attrs:=al++[(nm,rv)] } }).m=upd M.m h fun x=>{ x with attrs:=x.attrs++[(nm,rv)] }):=hi_ (by
      rw[d9_ M h _ (fun x=>{ x with attrs:=al++[(nm,rv)] }) (fun x=>rfl)];refine i4_ (by rw[M.m_len];exact hh) ?_;rw[HAl.out])
     generalize (M.modN h fun x=>{ x with av:=.slice (some ⟨gg,0,none⟩) (al.length+1) cap2,n:={ x.n with attrs:=al++[(nm,rv)] } })=M6 at *;clear hown5 hgrow hat5 hF5 hRs d0 m0 m1 g2 j2 hlt5 k2 f2 c0 l0 l1 HAt6 HRs5 HNe HHn HRowE HRec HAv;generalize World.setCell w5 ⟨M.g,h*7+2,none⟩ _=w9 at *;obtain⟨⟨r0,r1,r2,r3,r4,r5,r6,r7,r8,r9,r10⟩,_⟩:=bm_ HRc5.out;have hlE:=HRc5.out.lt;go_wp2_with fail
     have hrec:=ev_ (base:=w.heap.size) (w:=w9) (r:=bg_ h nm [] false) (cs:=#[.int .i64 3,.int .i64 h,.int .i64 (-1),.int .i64 (-1),.int .i64 (-1),.int .i64 0,.string ⟨nm.toArray⟩,.string ⟨#[]⟩,.bool false,.int .i64 0,.int .i64 0]) rfl HF6.out.size;refine bodyPost_ret (v:=.tuple #[.slice (some ⟨w9.heap.size,0,none⟩) 1 1,.int .i64 0]) (by simp[results,Tryz.results66,go_sem]) rfl ⟨_,M6,by rw[HRs.out];rfl,HF6.out.alloc _,HM6.out.below ((br_).alloc (nl_) _),by rw[HRs.out];exact Hm6.out,HL6.out,by rw[HRs.out];exact hrec⟩)
   |some i=>
    have HRs:=hi_ (HS4.out i hat);rw[show g9_ (some i)=(i:Int)from rfl];obtain⟨hil,hnm,old,hold⟩:∃hil:i<(nd M.m h).attrs.length,((nd M.m h).attrs[i]'hil).1=nm/\∃old,((nd M.m h).attrs[i]'hil).2=old:=by
     unfold bN_ at hat;rw[List.findIdx?_eq_some_iff_getElem]at hat;obtain⟨h1,h2,_⟩:=hat;exact⟨h1,by simpa using h2,_,rfl⟩
    have HOld:Hid ((((nd M.m h).attrs[i]?.map (·.2)).getD [])=old):=hi_ (by rw[List.getElem?_eq_getElem hil];exact hold);have HSet:Hid ((nd M.m h).attrs.modify i (fun a=>(a.1,rv))=(nd M.m h).attrs.set i (nm,rv)):=hi_ (by
     refine List.ext_getElem? fun j=>?_;rw[List.getElem?_modify,List.getElem?_set]
     by_cases e:i=j
     ·subst e
      rw[List.getElem?_eq_getElem hil];simp[hil,hnm]
     ·simp[e])
    obtain⟨ga,cap',hv',hga1,hga2,_⟩:=a1_ HRow.out (by omega);injection hv' with e1 _ e3
    subst e1 e3;have hc1:=(ac_.cell aq_ HRow.out hil (k:=1) (by omega)).1;have hf1:=(ac_.cell aq_ HRow.out hil (k:=1) (by omega)).2;have hc1':w2.cell? ⟨ga,i*2+1,none⟩=some (.string ⟨old.toArray⟩):=by
     have h1:w2.cell? ⟨ga,i*2+1,none⟩=some (.string ⟨((nd M.m h).attrs[i]).2.toArray⟩):=hc1;rw[hold]at h1;exact h1
    have hii:(i:Int)<((nd M.m h).attrs.length:Int):=by omega
    have HHn:Hid ((M.at_ h).av.ownBlock=some ga):=hi_ (by rw[HAv.out];rfl);generalize hal:(nd M.m h).attrs=al at *;have HAl:=hi_ hal;have HF1:=hi_ hf1;have HIl:=hi_ hil;clear hat HS3 HS4 hc1 hf1 hnm hold hal hil;go_upto_region 11 with fail
    have HRec:=hi_ (Blk.new w2 #[.int .i64 3,.int .i64 h,.int .i64 (-1),.int .i64 (-1),.int .i64 (-1),.int .i64 0,.string ⟨nm.toArray⟩,.string ⟨old.toArray⟩,.bool true,.int .i64 0,.int .i64 0] 71);have hbE:Below w2.heap.size w2 (w2.alloc (.cells #[.int .i64 3,.int .i64 h,.int .i64 (-1),.int .i64 (-1),.int .i64 (-1),.int .i64 0,.string ⟨nm.toArray⟩,.string ⟨old.toArray⟩,.bool true,.int .i64 0,.int .i64 0] 71)):=(Below.refl _ w2).alloc (nl_) _;have HBE:=bt_ HB2 hbE;have HME:=hi_ (HM.out.below HBE.out);have HRowE:=hi_ (own_below HRow.out hbE);clear hbE k2 f2 c0' l0' l1' hc1';generalize hEE:w2.heap.size=E at *;clear hEE
    generalize w2.alloc (.cells #[.int .i64 3,.int .i64 h,.int .i64 (-1),.int .i64 (-1),.int .i64 (-1),.int .i64 0,.string ⟨nm.toArray⟩,.string ⟨old.toArray⟩,.bool true,.int .i64 0,.int .i64 0] 71)=wE at *;obtain⟨c0,l0,l1⟩:=HME.out.top;have k2:=(HME.out.cell hh).2.2.1;rw[HAv.out]at k2;obtain⟨q1,q2⟩:=ac_.cell aq_ HRowE.out HIl.out (k:=1) (by omega);have q1':wE.cell? ⟨ga,i*2+1,none⟩=some (.string ⟨(al[i]'HIl.out).2.toArray⟩):=q1;have lga:=(ae_ HRowE.out).1;have HNE:=hi_ (fun e=>ak_ HRowE.out HRec.out (by decide) (by rw[e];rfl):ga≠E);have hF6:H.Frame (fun k=>(M.at_ h).av.ownBlock=some k) wE (wE.setCell ⟨ga,i*2+1,none⟩ (.string ⟨rv.toArray⟩)):=Frame.set (S:=fun k=>(M.at_ h).av.ownBlock=some k) (H.Frame.refl _ wE) (Or.inl HHn.out) _ _
    have HM6:=hi_ ((HME.out.rest hh hF6).same hh (al:=al.set i (nm,rv)) (by
     have h1:=ac_.store aq_ HRowE.out HIl.out (k:=1) (by omega) (.string ⟨rv.toArray⟩) (fun a=>(a.1,rv)) rfl;rw[HSet.out]at h1;rw[HAv.out];have h2:(al.set i (nm,rv)).length=al.length:=by simp
     rw[h2]at h1;exact h1))
    have HF6:=hi_ ((H.Frame.of (S:=M.foot) HBE.out).trans hF6 (fun b hb=>Or.inl (Or.inr (Or.inr ⟨_,(aF_.at_mem hh).2,Or.inr hb⟩))));have HRc6:=hi_ (HRec.out.far (show E≠ga from fun e=>HNE.out e.symm) (i*2+1) (.string ⟨rv.toArray⟩));have HL6:Hid (aO_ w M (M.modN h fun x=>{ x with n:={ x.n with attrs:=al.set i (nm,rv) } })):=hi_ ⟨rfl,rfl,fun k hk=>by
     rcases b2_ hh hk with h1|h1|h1
     ·exact Or.inl h1
     ·exact Or.inl (Or.inr (Or.inr ⟨_,(aF_.at_mem hh).2,Or.inl h1⟩))
     ·exact Or.inl (Or.inr (Or.inr ⟨_,(aF_.at_mem hh).2,Or.inr h1⟩))⟩
    have Hm6:Hid ((M.modN h fun x=>{ x with n:={ x.n with attrs:=al.set i (nm,rv) } }).m=upd M.m h fun x=>{ x with attrs:=x.attrs.set i (nm,rv) }):=hi_ (by
     rw[d9_ M h _ (fun x=>{ x with attrs:=al.set i (nm,rv) }) (fun x=>rfl)];refine i4_ (by rw[M.m_len];exact hh) ?_;rw[HAl.out])
    generalize (M.modN h fun x=>{ x with n:={ x.n with attrs:=al.set i (nm,rv) } })=M6 at *;clear q1 hF6 HHn HRow HSet;go_upto_region 13 with fail
    clear c0 l0 l1 k2 q1' q2 lga;generalize World.setCell wE ⟨ga,i*2+1,none⟩ _=w9 at *;obtain⟨⟨r0,r1,r2,r3,r4,r5,r6,r7,r8,r9,r10⟩,_⟩:=bm_ HRc6.out;have hlE:=HRc6.out.lt;go_wp2_with fail
    have hrec:=ev_ (base:=w.heap.size) (w:=w9) (r:=bg_ h nm old true) (cs:=#[.int .i64 3,.int .i64 h,.int .i64 (-1),.int .i64 (-1),.int .i64 (-1),.int .i64 0,.string ⟨nm.toArray⟩,.string ⟨old.toArray⟩,.bool true,.int .i64 0,.int .i64 0]) rfl HF6.out.size;rw[HOld.out]at HRs;refine bodyPost_ret (v:=.tuple #[.slice (some ⟨w9.heap.size,0,none⟩) 1 1,.int .i64 0]) (by simp[results,Tryz.results66,go_sem]) rfl ⟨_,M6,by rw[HRs.out];rfl,HF6.out.alloc _,HM6.out.below ((br_).alloc (nl_) _),by rw[HRs.out];exact Hm6.out,HL6.out,by rw[HRs.out];exact hrec⟩
 ·have HRs:=hi_ (HSC.out.1 hk)
  have e2:((kd:Int) != 2)=true:=bne_iff_ne.2 (by omega);clear hk;go_wp2_with fail
  refine bodyPost_ret (v:=.tuple #[.slice none 0 0,.int .i64 10]) (by simp[results,Tryz.results66,go_sem]) rfl ⟨.slice none 0 0,M,by rw[HRs.out];rfl,H.Frame.refl _ _,HM.out,by rw[HRs.out],aO_.refl _ _,by rw[HRs.out];exact aJ_.nil _ _⟩
end R
end
end Go.Proofs.YtinphfpdfodkkaaGreatDoor
