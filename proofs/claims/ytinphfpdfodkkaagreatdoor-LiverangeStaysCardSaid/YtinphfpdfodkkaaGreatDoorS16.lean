/- Texts. -/
import Derived.Test.YtinphfpdfodkkaaGreatDoorS14
import Derived.Test.YtinphfpdfodkkaaGreatDoorS06
import Derived.Test.YtinphfpdfodkkaaGreatDoorS13
import Derived.Test.YtinphfpdfodkkaaGreatDoorS11
import Derived.Laws.OwnMore
set_option linter.unusedVariables false
set_option linter.unusedSimpArgs false
set_option maxHeartbeats 8000000
set_option maxRecDepth 100000
namespace Go.Proofs.YtinphfpdfodkkaaGreatDoor
section
open Go.RowKit Go.Sort
namespace R
open H G A
def aI_(base:Nat)(w:World)(v:Value)(l:List Rec):Prop:=ab_ aX_ base 71 11 w v l
theorem aI_.nil(base:Nat)(w:World):aI_ base w (.slice none 0 0) []:=World.ownsRow_nil _ _ _ _
theorem aI_.form{base:Nat}{w:World}{v:Value}{l:List Rec}(h:aI_ base w v l):∃ao cap,v=.slice ao l.length cap:=by
 unfold aI_ ab_ at h;exact aY_ h
theorem fV_(r:Rec):∀u∈aX_ r,u.oneCell'=true:=by
 intro u hu;unfold aX_ at hu;simp only[List.mem_cons,List.not_mem_nil,or_false]at hu
 rcases hu with rfl|rfl|rfl|rfl|rfl|rfl|rfl|rfl|rfl|rfl|rfl<;>rfl
theorem j4_:(Tryz.prog.info? 71).map (fun i=>(i.zero,i.size,i.bytes))=some (some (.agg #[.int .i64 0,.int .i64 0,.int .i64 0,.int .i64 0,.int .i64 0,.int .i64 0,.string ⟨#[]⟩,.string ⟨#[]⟩,.bool false,.int .i64 0,.int .i64 0]),11,104):=by kernel_rfl
structure aO_(w:World)(M M':aJ_):Prop where
 mb:M'.mb=M.mb
 B:M'.B=M.B
 foot:∀k,M'.foot k->M.foot k\/w.heap.size<=k
theorem aO_.refl(w:World)(M:aJ_):aO_ w M M:=⟨rfl,rfl,fun k hk=>Or.inl hk⟩
theorem hx_{m:aa_}(W:WF m){h:Nat}(hh:h<m.length):(nd m h).kind=1↔h=0:=by
 constructor
 ·intro h1
  rcases Nat.eq_zero_or_pos h with h0|h0
  ·exact h0
  have:=(W.kinds h hh h0).1;omega
 rintro rfl;exact W.doc.2.1
theorem mRemove(M:aJ_)(h:Nat)(w:World)(hM:ac_ w M)(W:WF M.m)(hh:h<M.nodes.length) :
  Calls Tryz.prog 64 #[.pointer (some ⟨M.mb,0,none⟩),.int .i64 h] w fun e w'=>∃v M',e=.returned (.tuple #[v,.int .i64 ((bd_ M.m h).2.1:Nat)])/\H.Frame (fun k=>k=M.g) w w'/\ac_ w' M'/\M'.m=(bd_ M.m h).2.2/\aO_ w M M'/\aI_ w.heap.size w' v (bd_ M.m h).1:=by
 obtain⟨c0,l0,l1⟩:=hM.top;have n1:(h:Int)<(M.nodes.length:Int):=by omega
 have k4:=(hM.cell hh).2.2.2.2.1;have HK1:=hi_ (hx_ W (by rw[M.m_len];exact hh));have HR:Hd (bd_ M.m h=if (nd M.m h).kind=1 then([],10,M.m)else match (nd M.m h).parent with|none=>([],0,M.m)|some q=>([bm_ M.m h q],0,cut M.m h q)):=hi_ rfl;have QC:=hi_ (fun q (hq:(nd M.m h).parent=some q)=>mCut M h q w hM W hh hq);have HMm:=hi_ hM;generalize bd_ M.m h=R at *;clear hM hh
 by_cases e0:h=0
 ·have z1:((h:Int)==0)=true:=by rw[e0];rfl
  have HRr:Hd (R=([],10,M.m)):=hi_ (by rw[HR.o,if_pos (HK1.o.2 e0)]);clear e0
  go_enter Tryz.func64,Tryz.ntmps64
  go_wp2_with fail
  refine bodyPost_ret (v:=.tuple #[.slice none 0 0,.int .i64 10]) (by simp[results,Tryz.results64,go_sem]) rfl ⟨.slice none 0 0,M,by rw[HRr.o];rfl,H.Frame.refl _ _,HMm.o,by rw[HRr.o],aO_.refl _ _,by rw[HRr.o];exact aI_.nil _ _⟩
 have z1:((h:Int)==0)=false:=bn_ (by omega);have z2:¬(h:Int)=0:=by omega
 have HR2:=hi_ HR.o;rw[if_neg (fun h1=>e0 (HK1.o.1 h1))]at HR2;clear e0
 cases hq:(nd M.m h).parent with
 |none=>
  rw[hq]at k4 HR2;have k4':w.cell? ⟨M.g,h*7+4,none⟩=some (.int .i64 (-1)):=k4;clear k4 hq
  go_enter Tryz.func64,Tryz.ntmps64
  go_wp2_with fail
  refine bodyPost_ret (v:=.tuple #[.slice none 0 0,.int .i64 0]) (by simp[results,Tryz.results64,go_sem]) rfl ⟨.slice none 0 0,by rw[HR2.o];rfl,H.Frame.refl _ _,M,HMm.o,by rw[HR2.o],aO_.refl _ _,by rw[HR2.o];exact aI_.nil _ _⟩
 |some q=>
  rw[hq]at k4 HR2;have k4':w.cell? ⟨M.g,h*7+4,none⟩=some (.int .i64 q):=k4;have n2:¬(q:Int)<0:=by omega
  have Q2:=hi_ (QC.o q hq);clear k4 hq
  go_enter Tryz.func64,Tryz.ntmps64
  go_wp2_with fail
  refine Q2.o.mono ?_;rintro e w3 ⟨M',rfl,hf3,hM3,hm3,hmb,hg,hB,hlen,hfoot⟩;have HF3:=hi_ hf3;have HM3:=hi_ hM3;have HL3:=hi_ (aO_.mk (w:=w) hmb hB hfoot);have Hm3:=hi_ hm3;obtain⟨rc,hrc⟩:∃rc,rc=bm_ M.m h q:=⟨_,rfl⟩;rw[<-hrc]at HR2 ⊢;unfold aX_;clear hf3 hM3 hm3 hmb hg hB hlen hfoot Q2 hrc;go_wp2_with fail
  have hown:=World.ownsRow_lit (e:=71) (base:=w.heap.size) (size:=11) w3 (aX_ rc).toArray 1 HF3.o.size (by unfold maxLen;omega) (by simp[eq_]);have hown':(w3.alloc (.cells (aX_ rc).toArray 71)).ownsRow w.heap.size 71 11 (.slice (some ⟨w3.heap.size,0,none⟩) 1 1) 1 (aX_ rc):=by simpa using hown
  have hM9:=HM3.o.below ((Below.refl w3.heap.size w3).alloc (nl_) (.cells (aX_ rc).toArray 71));refine bodyPost_ret (v:=.tuple #[.slice (some ⟨w3.heap.size,0,none⟩) 1 1,.int .i64 0]) (by simp[results,Tryz.results64,go_sem]) rfl ⟨.slice (some ⟨w3.heap.size,0,none⟩) 1 1,M',by rw[HR2.o];rfl,HF3.o.alloc _,hM9,by rw[HR2.o];exact Hm3.o,HL3.o,?_⟩;rw[HR2.o];unfold aI_ ab_;rw[show[rc].flatMap aX_=aX_ rc by simp];exact hown'
theorem ac_.grown{w w':World}{M:aJ_}(h:ac_ w M){base size n:Nat}{e:TypeId}{v:Value}{xs:List Value}(hr:w.ownsRow base e size v n xs)(hg:w.grownBy w' v.ownBlock)(h1:102≠e)(h2:105≠e)(h3:3≠e)(h4:143≠e):ac_ w' M:=by
 have f:H.Frame (fun k=>v.ownBlock=some k) w w':=⟨hg.os,hg.tape,hg.output,hg.size,fun k hk hn=>hg.block k hk (fun e=>hn e.symm)⟩;refine h.frame f (fun k hk e2=>?_)
 rcases hk with hk|hk|⟨x,hx,hk|hk⟩
 ·subst hk
  exact ai_ hr h.blk (Ne.symm h1) e2
 ·exact aQ_ hr h.row (Ne.symm h2) e2 (by rw[hk];rfl)
 ·exact aQ_ hr (h.kids x hx) (Ne.symm h3) e2 hk
 exact aQ_ hr (h.attrs x hx) (Ne.symm h4) e2 hk
theorem bo_{P:Program}{o:Oper}{a:Act}{K:Act->World->Prop}{Q:Exit->Act->World->Prop}{E:Prop}{c:Prop}[Decidable c](X:World)(h:if c then Oper.wp P o a X K Q else E):if c then Oper.wp P o a X K Q else E:=h
theorem aB_{P:Program}{w:World}{ops:Array Oper}{o:Oper}{a:Act}{K:Act->World->Prop}{Q:Exit->Act->World->Prop}{E:Prop}(hgd:o.guard=none)(s x:Operand)(t:TypeId)
  (ho:o.op=.call { callee:=.builtin .append,args:=#[s,x],argTypes:=#[t,t] })
  (base:Nat) (e:TypeId) (i:TypeInfo) (z:Value) (size bytes:Nat) (ht:P.underlying t=some (.slice e)) (hi:P.info? e=some i) (hz:i.zero=some z)
  (hsize:i.size=size) (hby:i.bytes=bytes) (hzs:z.cells.size=size) (hsz:0<size)
  (v:Value) (n:Nat) (xs:List Value) (hs:a.eval s=v) (hown:w.ownsRow base e size v n xs)
  (A:Option Addr) (m c:Nat) (news:List Value) (hx:a.eval x=.slice A m c) (hnil:A=none->m=0/\c=0) (hl:news.length=m*size) (hnews:∀ad,A=some ad->∀j u,news[j]?=some u->w.cell? (ad.add j)=some u) (h1:∀u∈news,u.oneCell'=true)
  (h63:n+m<=maxLen) (hbytes:(n+m)*bytes<=140737488355328) (hbase:base<=w.heap.size)
  (h:∀v' w',w'.ownsRow base e size v' (n+m) (xs++news)->w.grownBy w' v.ownBlock->K (a.put o.dst v') w') :
  if Region.wanted o (yielded ops a.tmps)=true then Oper.wp P o a w K Q else E:=by
 cases A with
 |some ad=>exact bO_ hgd s x t ho base e i z size bytes ht hi hz hsize hby hzs hsz v n xs hs hown ad m c news hx hl (hnews ad rfl) h1 h63 hbytes hbase (fun v' w' a1 a2 _=>h v' w' a1 a2)
 |none=>
  obtain⟨rfl,rfl⟩:=hnil rfl;have hn:news=[]:=List.eq_nil_of_length_eq_zero (by simpa using hl);subst hn;have hw:Region.wanted o (yielded ops a.tmps)=true:=by simp[Region.wanted,hgd]
  rw[if_pos hw];have hrun:=run_append_owned_none (P:=P) (w:=w) base t o.type e i size ht hi v n xs hown;unfold Oper.wp;simp[execOp,ho,resolve,invoke,builtin,hs,hx,hrun,Result.andThen];exact h v w (by simpa using hown) ⟨rfl,rfl,rfl,nl_,fun _ _ _=>rfl⟩
theorem mh_(M:aJ_)(p h:Nat)(b:Option Nat)(w:World)(hM:ac_ w M)(W:WF M.m)(hp:p<M.nodes.length)(hh:h<M.nodes.length)(hb:∀x,b=some x->x<M.nodes.length)(hgn:(nd M.m h).gone=(nd M.m p).gone) :
  Calls Tryz.prog 62 #[.pointer (some ⟨M.mb,0,none⟩),.int .i64 p,.int .i64 h,.int .i64 (ch_ b)] w fun e w'=>∃v M',e=.returned (.tuple #[v,.int .i64 ((insert M.m p h b).2.1:Nat)])/\H.Frame (fun k=>k=M.g) w w'/\ac_ w' M'/\M'.m=(insert M.m p h b).2.2/\aO_ w M M'/\aI_ w.heap.size w' v (insert M.m p h b).1:=by
 obtain⟨c0,l0,l1⟩:=hM.top;have hlen:=M.m_len;have n1:(h:Int)<(M.nodes.length:Int):=by omega
 have n2:(p:Int)<(M.nodes.length:Int):=by omega
 have HMm:=hi_ hM;have QM:Hd (∀W':World,Below w.heap.size w W'->Calls Tryz.prog 119 #[.pointer (some ⟨M.mb,0,none⟩),.int .i64 p,.int .i64 h] W' fun e w'=>e=.returned (.bool (may M.m p h))/\W'=w'):=hi_ (fun W' hb=>by
  have h1:=mChild M p h W' (hM.below hb) W hp hh;rw[ng_ W (by omega) (by omega)]at h1;exact h1)
 have QD:=hi_ (fun W' (hb:Below w.heap.size w W')=>mDepth M p W' (hM.below hb) W hp);have QH:=hi_ (fun W' (hb:Below w.heap.size w W')=>mHeight M W' (hM.below hb) W _ h (nl_) hh);have QU:=hi_ (fun q (hq:(nd M.m h).parent=some q) W' (hb:Below w.heap.size w W')=>mCut M h q W' (hM.below hb) W hh hq);have QI:=hi_ (fun q (hq:(nd M.m h).parent=some q) W' (hb:Below w.heap.size w W')=>mi_ M h q W' (hM.below hb) W hh hq);have CP:=hi_ (fun(y:Nat) (hy:y<M.nodes.length) W' (hb:Below w.heap.size w W')=>((hM.below hb).cell hy).2.2.2.2.1);have HIns:=hi_ (fn_ M.m p h b);have HPar:=hi_ (fun x (hx:b=some x)=>(show cb_ M.m p b = !decide ((nd M.m x).parent=some p) by rw[hx];rfl));have HPn:=hi_ (fun(hx:b=none)=>(show cb_ M.m p b=false by rw[hx];rfl));have HB:=hi_ hb;have HGn:=hi_ hgn;have HHl:=hi_ hh
 have HPl:=hi_ hp;have hdl:=W.depth_le p;have hhl:=dP_ M.m h;obtain⟨zb,hzb⟩:∃z,z=ch_ b:=⟨_,rfl⟩;have HZb:=hi_ hzb;rw[<-hzb];obtain⟨RI,hRI⟩:∃R,R=insert M.m p h b:=⟨_,rfl⟩;have HRI:=hi_ hRI;rw[<-hRI];clear hM hb hzb hRI hgn
 go_enter Tryz.func62,Tryz.ntmps62
 obtain⟨c3,hc3⟩:∃c3,c3=(!(may M.m p h) || cb_ M.m p b):=⟨_,rfl⟩;have HC3:=hi_ hc3;clear hc3;go_upto_region 1 with fail
 go_cut [33] (fun s33 wx=>s33=.bool c3/\w=wx)
 case first=>
  go_wp2_with fail
  refine(QM.o _ (br_)).mono ?_;rintro e w2 ⟨rfl,rfl⟩
  cases hm:may M.m p h with
  |false=>
   have HMf:=hi_ hm;clear hm;go_wp2_with fail
   go_meet
   exact⟨congrArg Value.bool (by rw[HC3.o,HMf.o];rfl),rfl⟩
  |true=>
   have HMf:=hi_ hm;clear hm
   cases hb:b with
   |none=>
    have hz0:zb=-1:=by rw[HZb.o,hb];rfl
    subst hz0;have HBn:=hi_ (HPn.o hb);clear hb;go_wp2_with fail
    go_meet
    exact⟨congrArg Value.bool (by rw[HC3.o,HMf.o,HBn.o];rfl),rfl⟩
   |some x=>
    have hz0:zb=(x:Int):=by rw[HZb.o,hb];rfl
    subst hz0;have hxl:=HB.o x hb;have nx:(x:Int)<(M.nodes.length:Int):=by omega
    have nx0:(0:Int)<=(x:Int):=by omega
    have k4:=CP.o x hxl w (br_);have HBd:=hi_ (HPar.o x hb);have HEq:Hd (∀B,B=decide ((nd M.m x).parent=some p)->(ch_ (nd M.m x).parent==(p:Int))=B):=hi_ (fun B hB=>by
     rw[hB]
     cases hpx:(nd M.m x).parent with
     |none=>
      have:¬(-1:Int)=(p:Int):=by omega
      simp[ch_,this]
     |some q=>
      by_cases e:q=p
      ·rw[e];simp[ch_]
      have:¬(q:Int)=(p:Int):=by omega
      simp[ch_,this,e])
    generalize hB:decide ((nd M.m x).parent=some p)=B at *;have j1:=HEq.o B rfl;have j2:(ch_ (nd M.m x).parent != (p:Int)) = !B:=by rw[<-j1];rfl
    clear hB hb hxl
    cases B with
    |true=>
     go_wp2_with fail
     go_meet
     exact⟨congrArg Value.bool (by rw[HC3.o,HMf.o,HBd.o];rfl),rfl⟩
    |false=>
     have j3:=beq_eq_false_iff_ne.1 j1;go_wp2_with fail
     go_meet
     exact⟨congrArg Value.bool (by rw[HC3.o,HMf.o,HBd.o];rfl),rfl⟩
 obtain⟨rfl,rfl⟩:=hcut
 cases hbad:c3 with
 |true=>
  rw[HC3.o]at hbad;have HRr:Hd (RI=([],10,M.m)):=hi_ (by
   rw[HRI.o];refine HIns.o.1 ?_
   rcases Bool.or_eq_true_iff.1 hbad with h|h
   ·exact Or.inl (by simpa using h)
   exact Or.inr h)
  clear hbad;go_wp2_with fail
  have hfin:∃v M',Ending.returned (.tuple #[.slice none 0 0,.int .i64 10])=Ending.returned (.tuple #[v,.int .i64 RI.2.1])/\H.Frame (fun k=>k=M.g) w w/\ac_ w M'/\M'.m=RI.2.2/\aO_ w M M'/\aI_ w.heap.size w v RI.1:=⟨.slice none 0 0,M,by rw[HRr.o];rfl,H.Frame.refl _ _,HMm.o,by rw[HRr.o],aO_.refl _ _,by rw[HRr.o];exact aI_.nil _ _⟩;refine bodyPost_ret (v:=.tuple #[.slice none 0 0,.int .i64 10]) (by simp[results,Tryz.results62,go_sem]) rfl ?_
  first|exact hfin|(obtain⟨v,M',f1,f2,f3⟩:=hfin;exact⟨v,f1,f2,M',f3⟩)
 |false=>
  rw[HC3.o]at hbad;have HMy:=hi_ (show may M.m p h=true by have:=(Bool.or_eq_false_iff.1 hbad).1;simpa using this);have HPlc:=hi_ (Bool.or_eq_false_iff.1 hbad).2;clear hbad;generalize hdd:depth M.m p=dp at *;generalize hhe:ay_ M.m h=he at *;have HDd:=hi_ hdd;have HHe:=hi_ hhe;have wn:IntKind.i64.wrap ((dp:Int)+(he:Int))=(dp:Int)+(he:Int):=IntWalk.i64_in _ (by omega);clear hdd hhe;go_wp2_with fail
  refine(QD.o _ (br_)).mono ?_;rintro e w3 ⟨rfl,rfl⟩;go_wp2_with fail
  refine(QH.o _ (br_)).mono ?_;rintro e w4 ⟨rfl,rfl⟩
  by_cases hlim:128<dp+he
  ·have g1:(128:Int)<(dp:Int)+(he:Int):=by omega
   have HRr:Hd (RI=([],5,M.m)):=hi_ (by rw[HRI.o];exact HIns.o.2.1 HMy.o HPlc.o hlim);clear hlim;go_wp2_with fail
   have hfin:∃v M',Ending.returned (.tuple #[.slice none 0 0,.int .i64 5])=Ending.returned (.tuple #[v,.int .i64 RI.2.1])/\H.Frame (fun k=>k=M.g) w w/\ac_ w M'/\M'.m=RI.2.2/\aO_ w M M'/\aI_ w.heap.size w v RI.1:=⟨.slice none 0 0,M,by rw[HRr.o];rfl,H.Frame.refl _ _,HMm.o,by rw[HRr.o],aO_.refl _ _,by rw[HRr.o];exact aI_.nil _ _⟩;refine bodyPost_ret (v:=.tuple #[.slice none 0 0,.int .i64 5]) (by simp[results,Tryz.results62,go_sem]) rfl ?_
   first|exact hfin|(obtain⟨v,M',f1,f2,f3⟩:=hfin;exact⟨v,f1,f2,M',f3⟩)
  have g1:¬(128:Int)<(dp:Int)+(he:Int):=by omega
  have HRr:=hi_ (HRI.o.trans (HIns.o.2.2 HMy.o HPlc.o hlim));have HLim:=hi_ hlim;clear hlim;have HBo1:Hd (b=some h->aA_ M.m h b=aq_ M.m h):=hi_ (fun e=>by unfold aA_;rw[if_pos e];rfl);have HBo2:Hd (b≠some h->aA_ M.m h b=b):=hi_ (fun e=>by unfold aA_;rw[if_neg e])
  go_upto_if 44 with fail
  go_cut [3] (fun s3 wx=>s3=.int .i64 (ch_ (aA_ M.m h b))/\Hd (Below w.heap.size w wx))
  case first=>
   by_cases e:b=some h
   ·have hz:zb=(h:Int):=by rw[HZb.o,e];rfl
    subst hz;have z1:((h:Int)==(h:Int))=true:=beq_self_eq_true _;have HE:=hi_ (HBo1.o e);have hph:(nd M.m h).parent=some p:=by
     have h1:=HPlc.o;rw[HPar.o h e]at h1;simpa using h1
    have HNx:Hd (aq_ M.m h=(nd M.m p).kids[(nd M.m p).kids.idxOf h+1]?):=hi_ (by unfold aq_;rw[hph]);have k5:=(HMm.o.cell HPl.o).2.2.2.2.2.1;have hrow:=HMm.o.kidsRow HPl.o;obtain⟨ao,cap,hv,_⟩:=cd_.form hrow;rw[hv]at k5 hrow;have QIh:=hi_ (QI.o p hph);have hix:=List.idxOf_le_length (a:=h) (l:=(nd M.m p).kids);have hln:(nd M.m p).kids.length<=1000000:=by
     have h1:(nd M.m p).kids.length<=(List.range M.nodes.length).length:=List.Nodup.length_le_of_subset (W.nodup p) (fun x hx=>List.mem_range.2 (by rw[<-M.m_len];exact(W.kid p x hx).1));have:=HMm.o.few;rw[List.length_range]at h1;omega
    generalize (nd M.m p).kids=l at *;generalize hixx:l.idxOf h=ix at *;have QAt:=hi_ (fun(i:Int) W' (hb:cd_ M.B W' (.slice ao l.length cap) l)=>mAt (.slice ao l.length cap) l M.B i W' hb);have HRow:=hi_ hrow;have wn2:IntKind.i64.wrap ((ix:Int)+1)=(ix:Int)+1:=IntWalk.i64_in _ (by omega);have D0:=lc_ c0 l0;have D5:=lc_ k5 l1;clear e hph hv hrow hixx k5 c0;go_wp2_with fail
    refine af_ (by kernel_rfl) (by kernel_rfl) ?_;repeat (go_big_quiet_step (first|(go_at_call 123;exact Calls.later_same (QIh.o _ (Later.h _)))|(go_at_call 122;exact Calls.later_same (QAt.o _ _ (own_below HRow.o (Later.h _))))))
    refine wq_ (fun dq=>?_);clear D0 D5;rw[show(ix:Int)+1=((ix+1:Nat):Int) by push_cast;rfl,ju_];go_wp2_with fail
    go_meet
    exact⟨by rw[HE.o,HNx.o],hi_ dq.h⟩
   have hz:¬zb=(h:Int):=by
    rw[HZb.o]
    cases hbb:b with
    |none=>show ¬(-1:Int)=(h:Int);omega
    |some x=>exact fun e2=>e (by rw[hbb];have e3:(x:Int)=(h:Int):=e2;congr 1;omega)
   have z1:(zb==(h:Int))=false:=bn_ hz;have HE:=hi_ (HBo2.o e);clear e;go_wp2_with fail
   go_meet
   exact⟨by rw[HE.o,<-HZb.o],hi_ (br_)⟩
  obtain⟨rfl,HB5⟩:=hcut;have k4:=CP.o h HHl.o wc HB5.o;obtain⟨c05,l05,l15⟩:=(HMm.o.below HB5.o).top;clear c0 l0 l1
  go_upto_if 66 with fail
  go_cut [10] (fun s10 wx=>∃M1,Hd (aI_ w.heap.size wx s10 (a6_ M.m h))/\Hd (ac_ wx M1)/\Hd (M1.m=out M.m h)/\Hd (aO_ w M M1)/\Hd (H.Frame (fun k=>k=M.g) w wx)/\Hd (M1.g=M.g/\M1.nodes.length=M.nodes.length))
  case first=>
   cases hq:(nd M.m h).parent with
   |none=>
    rw[hq]at k4;have k4':wc.cell? ⟨M.g,h*7+4,none⟩=some (.int .i64 (-1)):=k4;have HO1:Hd (a6_ M.m h=[]):=hi_ (by unfold a6_;rw[hq]);have HO2:Hd (out M.m h=M.m):=hi_ (by unfold out;rw[hq]);clear k4 hq;go_wp2_with fail
    go_meet
    refine⟨M,hi_ ?_,hi_ ?_,hi_ ?_,hi_ (aO_.refl _ _),hi_ (H.Frame.of HB5.o),hi_ ⟨rfl,rfl⟩⟩
    ·rw[HO1.o];exact aI_.nil _ _
    ·exact HMm.o.below HB5.o
    rw[HO2.o]
   |some q=>
    rw[hq]at k4;have k4':wc.cell? ⟨M.g,h*7+4,none⟩=some (.int .i64 q):=k4;have hne1:(0:Int)<=(q:Int):=by omega
    have HO1:Hd (a6_ M.m h=[bm_ M.m h q]):=hi_ (by unfold a6_;rw[hq]);have HO2:Hd (out M.m h=cut M.m h q):=hi_ (by unfold out;rw[hq]);have Q7:=hi_ (QU.o q hq wc HB5.o);clear k4 hq;go_wp2_with fail
    refine Q7.o.mono ?_;rintro e w7 ⟨M1,rfl,hf7,hM7,hm7,hmb,hg,hB,hlen7,hfoot⟩;have HF7:=hi_ ((H.Frame.of (S:=fun k=>k=M.g) HB5.o).trans hf7 (fun b hb=>Or.inl hb));have HM7:=hi_ hM7;have Hm7:=hi_ hm7;have HL7:Hd (aO_ w M M1):=hi_ ⟨hmb,hB,fun k hk=>(hfoot k hk).imp id (fun h2=>Nat.le_trans HB5.o.size h2)⟩;have HG7:Hd (M1.g=M.g/\M1.nodes.length=M.nodes.length):=hi_ ⟨hg,hlen7⟩;obtain⟨rc,hrc⟩:∃rc,rc=bm_ M.m h q:=⟨_,rfl⟩;rw[<-hrc]at HO1 ⊢;have HOn:=hi_ (fV_ rc);have HNil:=hi_ (World.ownsRow_nil w7 w.heap.size 71 11);obtain⟨i0,hi0,hz0,hz1,hz2⟩:=info_parts j4_;have hs7:=HF7.o.size;clear hf7 hM7 hm7 hmb hg hB hlen7 hfoot Q7 hrc;unfold aX_
    go_wp2_with (at_builtin;refine wpList_append_lies _ rfl _ _ 140 rfl w.heap.size 71 i0 _ 11 104 Tryz.underlying140 hi0 hz0 hz1 hz2 rfl (by decide) (.slice none 0 0) 0 [] rfl (HNil.o.alloc _) ⟨w7.heap.size,0,none⟩ 1 1 (aX_ rc) rfl rfl ?c1 ?c2 ?c3 ?c4 ?c5 ?c6 (w7.heap.size+1) ?c7 ?_)
    case c1=>exact World.news_of_block (cs:=(aX_ rc).toArray) (heap_alloc_new w7 (.cells (aX_ rc).toArray 71))
    case c2=>exact HOn.o
    case c3=>omega
    case c4=>unfold maxLen;omega
    case c5=>omega
    case c6=>simp;omega
    case c7=>simp
    intro gg cap2 w8 hown8 hgrow hat8 hlt8;have HM8:=hi_ (ac_.grown (HM7.o.below ((Below.refl w7.heap.size w7).alloc (nl_) (.cells (aX_ rc).toArray 71))) (World.ownsRow_nil _ w.heap.size 71 11) hgrow (by decide) (by decide) (by decide) (by decide));have HF8:=hi_ ((HF7.o.alloc (.cells (aX_ rc).toArray 71)).grown hgrow (fun k hk=>by simp[Value.ownBlock]at hk));have HO8:=hi_ hown8;clear hown8 hgrow hat8;go_wp2_with fail
    go_meet
    refine⟨M1,hi_ ?_,HM8,hi_ ?_,HL7,HF8,HG7⟩
    ·rw[HO1.o]
     unfold aI_ ab_;rw[show[rc].flatMap aX_=aX_ rc by simp];have:=HO8.o;simpa using this
    rw[Hm7.o,HO2.o]
  obtain⟨M1,HR1,HM1,Hm1,HL1,HF1,HG1⟩:=hcut;obtain⟨m1,m2,m3⟩:=f0_ W HMy.o;have hl:h<M.m.length:=by rw[M.m_len];exact HHl.o
  have hpl:p<M.m.length:=by rw[M.m_len];exact HPl.o
  obtain⟨o1,o2,o3,o4,o5,o6,o7⟩:=fU_ W hl hpl m1;have hbp:∀x,b=some x->(nd M.m x).parent=some p:=fun x hx=>by
   have h1:=HPlc.o;rw[HPar.o x hx]at h1;simpa using h1
  have haft:=he_ W hl hpl hbp;rw[<-Hm1.o]at haft o1 o2 o3 o4 o5 o6 o7 HRr;have hn1:=HG1.o.2;obtain⟨k,hk⟩:∃k,k=placeOf M1.m p (aA_ M.m h b):=⟨_,rfl⟩;rw[<-hk]at haft HRr;have hp1:p<M1.nodes.length:=by rw[hn1];exact HPl.o
  have k5:=(HM1.o.cell hp1).2.2.2.2.2.1;have hrow:=HM1.o.kidsRow hp1;obtain⟨ao,cap,hv,_⟩:=cd_.form hrow;rw[hv]at k5 hrow;have HVP:=hi_ hv;have hln:(nd M1.m p).kids.length<=1000000:=by
   have h1:(nd M1.m p).kids.length<=(List.range M1.nodes.length).length:=List.Nodup.length_le_of_subset (o1.nodup p) (fun x hx=>List.mem_range.2 (by rw[<-M1.m_len];exact(o1.kid p x hx).1));have:=HM1.o.few;rw[List.length_range]at h1;omega
  have HQx:=hi_ (fun x (hx:aA_ M.m h b=some x)=>(by
   have h1:(nd M1.m p).kids[k]?=some x:=by
    have h2:=haft;unfold cQ_ at h2;rw[h2,hx]
   have h2:=o1.kid p x (List.mem_of_getElem? h1);have h3:=mi_ M1 x p wc HM1.o o1 (by rw[<-M1.m_len];exact h2.1) h2.2;have h4:k=(nd M1.m p).kids.idxOf x:=by rw[hk,hx];rfl
   rw[<-h4,HL1.o.mb]at h3;exact h3:Calls Tryz.prog 123 #[.pointer (some ⟨M.mb,0,none⟩),.int .i64 x] wc fun e w'=>e=.returned (.int .i64 k)/\wc=w'))
  have HQn:=hi_ (fun(hx:aA_ M.m h b=none)=>(show(nd M1.m p).kids.length=k by rw[hk,hx];rfl));have hkl:k<=(nd M1.m p).kids.length:=by
   rw[hk];unfold placeOf
   cases aA_ M.m h b with
   |none=>exact nl_
   |some x=>exact List.idxOf_le_length
  have HO3:=hi_ o3;have HO1:=hi_ o1;have HK5:=hi_ hkl;have HPR:Hd (aX_ (cY_ M1.m p h k)=[.int .i64 1,.int .i64 p,.int .i64 h,.int .i64 (ch_ (dq_ (nd M1.m p).kids k)),.int .i64 (ch_ (nd M1.m p).kids[k]?),.int .i64 k,.string ⟨#[]⟩,.string ⟨#[]⟩,.bool false,.int .i64 0,.int .i64 0]):=hi_ rfl;obtain⟨c01,l01,l11⟩:=HM1.o.top;rw[HL1.o.mb,HG1.o.1,hn1]at c01;rw[HG1.o.1]at k5;generalize hll:(nd M1.m p).kids=l at *;have HLl:=hi_ hll;have HRow:=hi_ hrow;have wn3:IntKind.i64.wrap ((k:Int)-1)=(k:Int)-1:=IntWalk.i64_in _ (by omega);have QA:=hi_ (fun(i:Int) W' (hb:cd_ M1.B W' (.slice ao l.length cap) l)=>mAt (.slice ao l.length cap) l M1.B i W' hb);obtain⟨B1,hB1⟩:∃B1,B1=aA_ M.m h b:=⟨_,rfl⟩;rw[<-hB1]at HQx HQn ⊢
  clear haft hbp hl hpl o1 o2 o3 o4 o5 o6 o7 m1 m2 m3 hv hrow hll hk hB1 c05 l05 l15 k4 hn1 hp1 g1
  go_upto_if 84 with fail
  go_cut [3,12] (fun s3 s12 wx=>s12=.int .i64 k/\wc=wx)
  case first=>
   cases hbb:B1 with
   |none=>
    have e1:=HQn.o hbb;have HE1:=hi_ e1;clear hbb e1;go_wp2_with fail
    go_meet
    exact⟨by rw[HE1.o],rfl⟩
   |some x=>
    have hx0:(0:Int)<=(x:Int):=by omega
    have Q7:=hi_ (HQx.o x hbb);clear hbb;go_wp2_with fail
    refine Q7.o.mono ?_;rintro e w7 ⟨rfl,rfl⟩;go_wp2_with fail
    go_meet
    exact⟨rfl,rfl⟩
  obtain⟨rfl,rfl⟩:=hcut;go_wp2_with fail
  refine(QA.o _ _ HRow.o).mono ?_;rintro e w3 ⟨rfl,rfl⟩;go_wp2_with fail
  refine(QA.o _ _ HRow.o).mono ?_;rintro e w3 ⟨rfl,rfl⟩;rw[kn_ HK5.o,ju_];obtain⟨rc,hrc⟩:∃rc,rc=cY_ M1.m p h k:=⟨_,rfl⟩;rw[<-hrc]at HPR HRr;obtain⟨zp,hzp⟩:∃z,z=ch_ (dq_ l k):=⟨_,rfl⟩;obtain⟨zn,hzn⟩:∃z,z=ch_ l[k]?:=⟨_,rfl⟩;rw[<-hzp,<-hzn]at HPR ⊢;obtain⟨ao1,cap1,hv1⟩:=HR1.o.form;subst hv1;have HOn:=hi_ (fV_ rc);rw[HPR.o]at HOn;obtain⟨i0,hi0,hz0,hz1,hz2⟩:=info_parts j4_;have hs7:=HF1.o.size;have hlo:(a6_ M.m h).length<=1:=by unfold a6_;cases (nd M.m h).parent<;>simp
  obtain⟨lo,hlo2⟩:∃lo,lo=a6_ M.m h:=⟨_,rfl⟩;rw[<-hlo2]at HRr HR1 hlo ⊢;clear hrc hlo2 hzp hzn;go_wp2_with (at_builtin;refine wpList_append_lies _ rfl _ _ 140 rfl w.heap.size 71 i0 _ 11 104 Tryz.underlying140 hi0 hz0 hz1 hz2 rfl (by decide) (.slice ao1 lo.length cap1) lo.length (lo.flatMap aX_) rfl (World.ownsRow.alloc HR1.o _) ⟨wc.heap.size,0,none⟩ 1 1 [.int .i64 1,.int .i64 p,.int .i64 h,.int .i64 zp,.int .i64 zn,.int .i64 k,.string ⟨#[]⟩,.string ⟨#[]⟩,.bool false,.int .i64 0,.int .i64 0] rfl rfl ?c1 ?c2 ?c3 ?c4 ?c5 ?c6 (wc.heap.size+1) ?c7 ?_)
  case c1=>exact World.news_of_block (cs:=#[.int .i64 1,.int .i64 p,.int .i64 h,.int .i64 zp,.int .i64 zn,.int .i64 k,.string ⟨#[]⟩,.string ⟨#[]⟩,.bool false,.int .i64 0,.int .i64 0]) (heap_alloc_new wc (.cells #[.int .i64 1,.int .i64 p,.int .i64 h,.int .i64 zp,.int .i64 zn,.int .i64 k,.string ⟨#[]⟩,.string ⟨#[]⟩,.bool false,.int .i64 0,.int .i64 0] 71))
  case c2=>exact HOn.o
  case c3=>omega
  case c4=>unfold maxLen;omega
  case c5=>omega
  case c6=>simp;omega
  case c7=>simp
  intro gg cap2 w4 hown8 hgrow hat8 hlt8;have HM4:=hi_ (ac_.grown (HM1.o.below ((Below.refl wc.heap.size wc).alloc (nl_) (.cells #[.int .i64 1,.int .i64 p,.int .i64 h,.int .i64 zp,.int .i64 zn,.int .i64 k,.string ⟨#[]⟩,.string ⟨#[]⟩,.bool false,.int .i64 0,.int .i64 0] 71))) (World.ownsRow.alloc HR1.o _) hgrow (by decide) (by decide) (by decide) (by decide));have HF4:=hi_ ((HF1.o.alloc (.cells #[.int .i64 1,.int .i64 p,.int .i64 h,.int .i64 zp,.int .i64 zn,.int .i64 (k:Nat),.string ⟨#[]⟩,.string ⟨#[]⟩,.bool false,.int .i64 0,.int .i64 0] 71)).grown hgrow (fun k hk=>Or.inr (HR1.o.lt k hk).1));have HO8:Hd (aI_ w.heap.size w4 (.slice (some ⟨gg,0,none⟩) (lo.length+1) cap2) (lo++[rc])):=hi_ (by
   unfold aI_ ab_;rw[List.flatMap_append,show[rc].flatMap aX_=aX_ rc by simp,List.length_append,HPR.o];exact hown8)
  clear hown8 hgrow hat8 hlt8 hlo hs7 hi0 hz0 hz1 hz2 k5 HRow c01 l01 l11 QA HM1 HR1 HF1;have hrow4:=HM4.o.kidsRow (i:=p) (by rw[HG1.o.2];exact HPl.o);rw[HLl.o,HVP.o]at hrow4;have HRow4:=hi_ hrow4;have HMb:=hi_ (fun W' (hb:Below w4.heap.size w4 W')=>HM4.o.below hb);obtain⟨c04,l04,l14⟩:=HM4.o.top;rw[HL1.o.mb]at c04 l04;rw[HG1.o.1]at c04 l14;rw[HG1.o.2]at c04;clear hrow4;have hlen4:l.length<=1000000:=hln;have hk4:k<=l.length:=HK5.o;have HS0:Hd (∀W',Below w4.heap.size w4 W'->W'.cell? ⟨M.mb,0,none⟩=some (.slice (some ⟨M.g,0,none⟩) M.nodes.length M1.cap)):=hi_ (fun W' hb=>by
   have h1:=(HMb.o W' hb).top.1;rw[HL1.o.mb,HG1.o.1,HG1.o.2]at h1;exact h1)
  obtain⟨i1,hi1,hy0,hy1',hy2'⟩:=info_parts dh_;have HYB:=hi_ ((Below.refl w4.heap.size w4).alloc (nl_) (.cells #[] 3)).drew;have HYA:=hi_ (((Below.refl w4.heap.size w4).alloc (nl_) (.cells #[] 3)).alloc (by simp) (.cells #[.int .i64 h] 3)).drew;have HYD:=hi_ ((Below.refl w4.heap.size w4).alloc (nl_) (.cells #[.int .i64 h] 3)).drew;have HYC:=hi_ (((Below.refl w4.heap.size w4).alloc (nl_) (.cells #[.int .i64 h] 3)).alloc (by simp) (.cells #[] 3)).drew;have hm0:=World.ownsRow_made (e:=3) (base:=w4.heap.size) (size:=1) w4 #[] 0 (nl_) (Nat.zero_le _) rfl;have HOB:=hi_ hm0.drew;have HOA:=hi_ (World.ownsRow.alloc hm0 (.cells #[.int .i64 h] 3)).drew
  have hm1:=World.ownsRow_made (e:=3) (base:=w4.heap.size) (size:=1) (w4.alloc (.cells #[.int .i64 h] 3)) #[] 0 (by simp) (Nat.zero_le _) rfl;have e1:(w4.alloc (.cells #[.int .i64 h] 3)).heap.size=w4.heap.size+1:=by simp
  rw[e1]at hm1;have HOC:=hi_ hm1.drew;clear hm0 hm1 e1;have hx0:w4.drew.cell? ⟨M.mb,0,none⟩=some (.slice (some ⟨M.g,0,none⟩) M.nodes.length M1.cap):=c04;have HS1:=hi_ hx0;have hmg:¬M.mb=M.g:=fun e=>ai_ HM4.o.row HM4.o.blk (by decide) (by rw[HL1.o.mb,HG1.o.1,e];rfl);have HMG:=hi_ hmg;have HP1:=hi_ (show p<M1.nodes.length by rw[HG1.o.2];exact HPl.o);clear hmg;go_upto_region 15 with fail
  go_cut [] (fun wx=>∃v W6,wx=World.setCell W6 ⟨M.g,p*7+5,none⟩ v/\Hd (Below w4.heap.size w4 W6)/\Hd (cd_ w4.heap.size W6 v (l.take k++h :: l.drop k)))
  case first=>
   cases ao with
   |none=>
    obtain⟨hl0,hc0⟩:l.length=0/\cap=0:=by
     rcases HRow4.o.2 with⟨h1,h2⟩|⟨g,cap',cur,h1,_⟩
     ·injection h1 with _ h3 h4
      exact⟨h3,h4⟩
     cases h1
    have hl1:l=[]:=List.eq_nil_of_length_eq_zero hl0;have hk0:k=0:=by omega
    subst hl1 hc0 hk0;have HZ1:Hd (0+0<=maxLen):=hi_ (by unfold maxLen;omega);have HZ2:Hd ((0+0)*8<=140737488355328):=hi_ (by omega);have HZ3:Hd (0+1<=maxLen):=hi_ (by unfold maxLen;omega);have HZ4:Hd ((0+1)*8<=140737488355328):=hi_ (by omega);have HZ5:Hd (0+1+0<=maxLen):=hi_ (by unfold maxLen;omega);have HZ6:Hd ((0+1+0)*8<=140737488355328):=hi_ (by omega);have HGA:Hd (∀j u,[Value.int .i64 h][j]?=some u->((w4.alloc (.cells #[] 3)).alloc (.cells #[.int .i64 h] 3)).drew.cell? ((⟨w4.heap.size+1,0,none⟩:Addr).add j)=some u):=hi_ (fun j u hu=>by
     have h1:=World.news_of_block (cs:=#[.int .i64 h]) (heap_alloc_new (w4.alloc (.cells #[] 3)) (.cells #[.int .i64 h] 3)) j u hu;simpa using h1)
    have HGC:Hd (∀j u,[Value.int .i64 h][j]?=some u->(w4.alloc (.cells #[.int .i64 h] 3)).drew.cell? ((⟨w4.heap.size,0,none⟩:Addr).add j)=some u):=hi_ (fun j u hu=>World.news_of_block (cs:=#[.int .i64 h]) (heap_alloc_new w4 (.cells #[.int .i64 h] 3)) j u hu)
    go_region_held3 (fun w'=>w'.cell? ⟨M.mb,0,none⟩=some (.slice (some ⟨M.g,0,none⟩) M.nodes.length M1.cap)) (first|with_reducible exact HS1.o|with_reducible exact HS0.o _ HYA.o|with_reducible exact HS0.o _ HYB.o|with_reducible exact HS0.o _ HYC.o|with_reducible exact HS0.o _ HYD.o|with_reducible exact HS0.o _ HD5.o|with_reducible exact HS0.o _ (HD5.o.alloc HD5.o.size _)|with_reducible exact HS0.o _ HD6.o|with_reducible exact HS0.o _ HD7.o|with_reducible exact hyS)
     (first
      | (with_reducible refine bo_ ((w4.alloc (.cells #[] 3)).alloc (.cells #[.int .i64 h] 3)).drew ?_
         refine aB_ (by rfl) _ _ 39 (by rfl) w4.heap.size 3 i1 _ 1 8 Tryz.underlying39 hi1 hy0 hy1' hy2' rfl (by decide) (.slice (some ⟨w4.heap.size,0,none⟩) 0 0) 0 [] (by rfl) HOA.o none 0 0 [] (by rfl) (fun _=>⟨rfl,rfl⟩) rfl (fun ad had=>by cases had) (fun u hu=>by cases hu) HZ1.o HZ2.o HYA.o.size ?_;intro v1 w5 hown1 hgrow1;rw[Nat.zero_add]at hown1;obtain⟨ao1,cap1,rfl⟩:=aY_ hown1;have HO1:=hi_ hown1;have HD5:=hi_ (HYA.o.grown hgrow1 HYA.o.size (fun k hk=>by simp[Value.ownBlock]at hk;omega));have HH5:Hd (∀j u,[Value.int .i64 h][j]?=some u->w5.cell? ((⟨w4.heap.size+1,0,none⟩:Addr).add j)=some u):=hi_ (fun j u hu=>by
          have h1:=HGA.o j u hu;rw[dK_]at h1 ⊢;exact hgrow1.cell (a:=⟨w4.heap.size+1,0+j,none⟩) h1 (by simp[Value.ownBlock]))
         clear hown1 hgrow1)
      | (with_reducible refine bo_ (w4.alloc (.cells #[] 3)).drew ?_
         refine aB_ (by rfl) _ _ 39 (by rfl) w4.heap.size 3 i1 _ 1 8 Tryz.underlying39 hi1 hy0 hy1' hy2' rfl (by decide) (.slice (some ⟨w4.heap.size,0,none⟩) 0 0) 0 [] (by rfl) HOB.o none 0 0 [] (by rfl) (fun _=>⟨rfl,rfl⟩) rfl (fun ad had=>by cases had) (fun u hu=>by cases hu) HZ1.o HZ2.o HYB.o.size ?_;intro v1 w5 hown1 hgrow1;rw[Nat.zero_add]at hown1;obtain⟨ao1,cap1,rfl⟩:=aY_ hown1;have HO1:=hi_ hown1;have HD5:=hi_ (HYB.o.grown hgrow1 HYB.o.size (fun k hk=>by simp[Value.ownBlock]at hk;omega));clear hown1 hgrow1)
      | (with_reducible refine bo_ ((w4.alloc (.cells #[.int .i64 h] 3)).alloc (.cells #[] 3)).drew ?_
         refine aB_ (by rfl) _ _ 39 (by rfl) w4.heap.size 3 i1 _ 1 8 Tryz.underlying39 hi1 hy0 hy1' hy2' rfl (by decide) (.slice (some ⟨w4.heap.size+1,0,none⟩) 0 0) 0 [] (by rfl) HOC.o none 0 0 [] (by rfl) (fun _=>⟨rfl,rfl⟩) rfl (fun ad had=>by cases had) (fun u hu=>by cases hu) HZ1.o HZ2.o HYC.o.size ?_;intro v1 w5 hown1 hgrow1;rw[Nat.zero_add]at hown1;obtain⟨ao1,cap1,rfl⟩:=aY_ hown1;have HO1:=hi_ hown1;have HD5:=hi_ (HYC.o.grown hgrow1 HYC.o.size (fun k hk=>by simp[Value.ownBlock]at hk;omega));have HH5:Hd (∀j u,[Value.int .i64 h][j]?=some u->w5.cell? ((⟨w4.heap.size,0,none⟩:Addr).add j)=some u):=hi_ (fun j u hu=>by
          have h1:=HGC.o j u hu;rw[dK_]at h1 ⊢;refine hgrow1.cell (a:=⟨w4.heap.size,0+j,none⟩) ?_ (by simp[Value.ownBlock]);exact(World.cell?_alloc_lt _ _ _ (by simp)).trans h1)
         clear hown1 hgrow1)
      | (with_reducible refine bo_ w5 ?_
         refine aB_ (by rfl) _ _ 39 (by rfl) w4.heap.size 3 i1 _ 1 8 Tryz.underlying39 hi1 hy0 hy1' hy2' rfl (by decide) (.slice ao1 0 cap1) 0 [] (by rfl) HO1.o (some ⟨w4.heap.size+1,0,none⟩) 1 1 [.int .i64 h] (by rfl) (fun e=>by cases e) rfl (fun ad had=>by injection had with had;subst had;exact HH5.o) (bl_ [h]) HZ3.o HZ4.o HD5.o.size ?_;intro v2 w6 hown2 hgrow2;obtain⟨ao2,cap2,rfl⟩:=aY_ hown2;have HO2:=hi_ hown2;have HD6:=hi_ (HD5.o.grown hgrow2 HD5.o.size (fun k hk=>(HO1.o.lt k hk).1));clear hown2 hgrow2)
      | (with_reducible refine bo_ w5 ?_
         refine aB_ (by rfl) _ _ 39 (by rfl) w4.heap.size 3 i1 _ 1 8 Tryz.underlying39 hi1 hy0 hy1' hy2' rfl (by decide) (.slice ao1 0 cap1) 0 [] (by rfl) HO1.o (some ⟨w4.heap.size,0,none⟩) 1 1 [.int .i64 h] (by rfl) (fun e=>by cases e) rfl (fun ad had=>by injection had with had;subst had;exact HH5.o) (bl_ [h]) HZ3.o HZ4.o HD5.o.size ?_;intro v2 w6 hown2 hgrow2;obtain⟨ao2,cap2,rfl⟩:=aY_ hown2;have HO2:=hi_ hown2;have HD6:=hi_ (HD5.o.grown hgrow2 HD5.o.size (fun k hk=>(HO1.o.lt k hk).1));clear hown2 hgrow2)
      | (with_reducible refine bo_ (w5.alloc (.cells #[.int .i64 h] 3)) ?_
         have HD5b:=hi_ (HD5.o.alloc HD5.o.size (.cells #[.int .i64 h] 3));refine aB_ (by rfl) _ _ 39 (by rfl) w4.heap.size 3 i1 _ 1 8 Tryz.underlying39 hi1 hy0 hy1' hy2' rfl (by decide) (.slice ao1 0 cap1) 0 [] (by rfl) (World.ownsRow.alloc HO1.o _) (some ⟨w5.heap.size,0,none⟩) 1 1 [.int .i64 h] (by rfl) (fun e=>by cases e) rfl (fun ad had=>by injection had with had;subst had;exact World.news_of_block (cs:=#[.int .i64 h]) (heap_alloc_new w5 (.cells #[.int .i64 h] 3))) (bl_ [h]) HZ3.o HZ4.o HD5b.o.size ?_;intro v2 w6 hown2 hgrow2;obtain⟨ao2,cap2,rfl⟩:=aY_ hown2;have HO2:=hi_ hown2;have HD6:=hi_ (HD5b.o.grown hgrow2 HD5b.o.size (fun k hk=>(HO1.o.lt k hk).1));clear hown2 hgrow2)
      | (with_reducible refine bo_ w6 ?_
         refine aB_ (by rfl) _ _ 39 (by rfl) w4.heap.size 3 i1 _ 1 8 Tryz.underlying39 hi1 hy0 hy1' hy2' rfl (by decide) (.slice ao2 (0+1) cap2) (0+1) ([]++[.int .i64 h]) (by rfl) HO2.o none 0 0 [] (by rfl) (fun _=>⟨rfl,rfl⟩) rfl (fun ad had=>by cases had) (fun u hu=>by cases hu) HZ5.o HZ6.o HD6.o.size ?_;intro v3 w7 hown3 hgrow3;obtain⟨ao3,cap3,rfl⟩:=aY_ hown3;have HO3:=hi_ hown3;have HD7:=hi_ (HD6.o.grown hgrow3 HD6.o.size (fun k hk=>(HO2.o.lt k hk).1));have f5:=(ab_.cell aV_ (HMb.o w7 HD7.o).row HP1.o (k:=5) (by omega)).2;have k5:=((HMb.o w7 HD7.o).cell HP1.o).2.2.2.2.2.1;rw[HG1.o.1]at f5 k5;have hyS:=(World.cell?_of_block (a:=⟨M.mb,0,none⟩) (Below.heap_setCell w7 ⟨M.g,p*7+5,none⟩ (.slice ao3 (0+1+0) cap3) M.mb HMG.o)).trans (HS0.o w7 HD7.o);clear hown3 hgrow3))
    all_goals (
     go_wp2_with fail
     go_meet
     refine⟨_,w7,rfl,HD7,hi_ ?_⟩;exact HO3.o)
   |some ad=>
    obtain⟨g,rfl⟩:∃g,ad=⟨g,0,none⟩:=by
     rcases HRow4.o.2 with⟨h1,h2⟩|⟨g,cap',cur,h1,_⟩
     ·cases h1
     injection h1 with h1 _ _
     injection h1 with h1
     exact⟨g,h1⟩
    obtain⟨hrl,_,hcap,hrc4⟩:=ad_ HRow4.o;have HCell:=hi_ (fun j u (hu:(aF_ l)[j]?=some u)=>(show w4.cell? ⟨g,j,none⟩=some u from by
     have hj:j<(aF_ l).length:=by
      rcases Nat.lt_or_ge j (aF_ l).length with h2|h2
      ·exact h2
      rw[List.getElem?_eq_none h2]at hu;cases hu
     rw[(hrc4 j hj).1,hu]))
    have HRl:=hi_ hrl;have HCap:=hi_ hcap;have HKl:=hi_ hk4;have HLn:=hi_ hlen4;have HN1:Hd ((aF_ (l.take k)).length=k*1):=hi_ (by unfold aF_;rw[List.length_map,List.length_take];omega);have HNl:Hd ((aF_ (l.drop k)).length=(l.length-k)*1):=hi_ (by unfold aF_;rw[List.length_map,List.length_drop];omega);have HN2:Hd (∀W':World,Below w4.heap.size w4 W'->∀ad,some (⟨g,0,none⟩:Addr)=some ad->∀j u,(aF_ (l.take k))[j]?=some u->W'.cell? (ad.add j)=some u):=hi_ (fun W' hb ad had j u hu=>by
     injection had with had
     subst had;rw[dK_,Nat.zero_add];have h1:(aF_ l)[j]?=some u:=by
      unfold aF_ at hu ⊢;rw[List.getElem?_map,List.getElem?_take]at hu;rw[List.getElem?_map]
      split at hu
      ·exact hu
      cases hu
     exact(hb.cell (p:=⟨g,j,none⟩) HRl.o).trans (HCell.o j u h1))
    have HN4:Hd (∀W':World,Below w4.heap.size w4 W'->∀ad,some (if cap=k then(⟨g,0,none⟩:Addr) else⟨g,k,none⟩)=some ad->∀j u,(aF_ (l.drop k))[j]?=some u->W'.cell? (ad.add j)=some u):=hi_ (fun W' hb ad had j u hu=>by
     injection had with had
     subst had;unfold aF_ at hu;rw[List.getElem?_map,List.getElem?_drop]at hu;have hlt:k+j<l.length:=by
      rcases Nat.lt_or_ge (k+j) l.length with h2|h2
      ·exact h2
      rw[List.getElem?_eq_none h2]at hu;cases hu
     have hcp:=HCap.o;rw[if_neg (by omega),dK_];refine(hb.cell (p:=⟨g,k+j,none⟩) HRl.o).trans (HCell.o _ _ ?_);unfold aF_;rw[List.getElem?_map];exact hu)
    have HZ1:Hd (0+k<=maxLen):=hi_ (by unfold maxLen;omega);have HZ2:Hd ((0+k)*8<=140737488355328):=hi_ (by omega);have HZ3:Hd (k+1<=maxLen):=hi_ (by unfold maxLen;omega);have HZ4:Hd ((k+1)*8<=140737488355328):=hi_ (by omega);have HZ5:Hd (k+1+(l.length-k)<=maxLen):=hi_ (by unfold maxLen;omega);have HZ6:Hd ((k+1+(l.length-k))*8<=140737488355328):=hi_ (by omega);have HGA:Hd (∀j u,[Value.int .i64 h][j]?=some u->((w4.alloc (.cells #[] 3)).alloc (.cells #[.int .i64 h] 3)).drew.cell? ((⟨w4.heap.size+1,0,none⟩:Addr).add j)=some u):=hi_ (fun j u hu=>by
     have h1:=World.news_of_block (cs:=#[.int .i64 h]) (heap_alloc_new (w4.alloc (.cells #[] 3)) (.cells #[.int .i64 h] 3)) j u hu;simpa using h1)
    have HGC:Hd (∀j u,[Value.int .i64 h][j]?=some u->(w4.alloc (.cells #[.int .i64 h] 3)).drew.cell? ((⟨w4.heap.size,0,none⟩:Addr).add j)=some u):=hi_ (fun j u hu=>World.news_of_block (cs:=#[.int .i64 h]) (heap_alloc_new w4 (.cells #[.int .i64 h] 3)) j u hu);have s1:(k:Int)<=(cap:Int):=by omega
    have s2:(0:Int)<=(k:Int):=by omega
    have s3:(k:Int)<=(l.length:Int):=by omega
    clear hrl hcap hrc4 hk4 hlen4 hln
    go_region_held3 (fun w'=>w'.cell? ⟨M.mb,0,none⟩=some (.slice (some ⟨M.g,0,none⟩) M.nodes.length M1.cap)) (first|with_reducible exact HS1.o|with_reducible exact HS0.o _ HYA.o|with_reducible exact HS0.o _ HYB.o|with_reducible exact HS0.o _ HYC.o|with_reducible exact HS0.o _ HYD.o|with_reducible exact HS0.o _ HD5.o|with_reducible exact HS0.o _ (HD5.o.alloc HD5.o.size _)|with_reducible exact HS0.o _ HD6.o|with_reducible exact HS0.o _ HD7.o|with_reducible exact hyS)
     (first
      | (with_reducible refine bo_ ((w4.alloc (.cells #[] 3)).alloc (.cells #[.int .i64 h] 3)).drew ?_
         refine aB_ (by rfl) _ _ 39 (by rfl) w4.heap.size 3 i1 _ 1 8 Tryz.underlying39 hi1 hy0 hy1' hy2' rfl (by decide) (.slice (some ⟨w4.heap.size,0,none⟩) 0 0) 0 [] (by rfl) HOA.o (some ⟨g,0,none⟩) k cap (aF_ (l.take k)) (by rfl) (fun e=>by cases e) HN1.o (HN2.o _ HYA.o) (bl_ _) HZ1.o HZ2.o HYA.o.size ?_;intro v1 w5 hown1 hgrow1;rw[Nat.zero_add]at hown1;obtain⟨ao1,cap1,rfl⟩:=aY_ hown1;have HO1:=hi_ hown1;have HD5:=hi_ (HYA.o.grown hgrow1 HYA.o.size (fun k hk=>by simp[Value.ownBlock]at hk;omega));have HH5:Hd (∀j u,[Value.int .i64 h][j]?=some u->w5.cell? ((⟨w4.heap.size+1,0,none⟩:Addr).add j)=some u):=hi_ (fun j u hu=>by
          have h1:=HGA.o j u hu;rw[dK_]at h1 ⊢;exact hgrow1.cell (a:=⟨w4.heap.size+1,0+j,none⟩) h1 (by simp[Value.ownBlock]))
         clear hown1 hgrow1)
      | (with_reducible refine bo_ (w4.alloc (.cells #[] 3)).drew ?_
         refine aB_ (by rfl) _ _ 39 (by rfl) w4.heap.size 3 i1 _ 1 8 Tryz.underlying39 hi1 hy0 hy1' hy2' rfl (by decide) (.slice (some ⟨w4.heap.size,0,none⟩) 0 0) 0 [] (by rfl) HOB.o (some ⟨g,0,none⟩) k cap (aF_ (l.take k)) (by rfl) (fun e=>by cases e) HN1.o (HN2.o _ HYB.o) (bl_ _) HZ1.o HZ2.o HYB.o.size ?_;intro v1 w5 hown1 hgrow1;rw[Nat.zero_add]at hown1;obtain⟨ao1,cap1,rfl⟩:=aY_ hown1;have HO1:=hi_ hown1;have HD5:=hi_ (HYB.o.grown hgrow1 HYB.o.size (fun k hk=>by simp[Value.ownBlock]at hk;omega));clear hown1 hgrow1)
      | (with_reducible refine bo_ ((w4.alloc (.cells #[.int .i64 h] 3)).alloc (.cells #[] 3)).drew ?_
         refine aB_ (by rfl) _ _ 39 (by rfl) w4.heap.size 3 i1 _ 1 8 Tryz.underlying39 hi1 hy0 hy1' hy2' rfl (by decide) (.slice (some ⟨w4.heap.size+1,0,none⟩) 0 0) 0 [] (by rfl) HOC.o (some ⟨g,0,none⟩) k cap (aF_ (l.take k)) (by rfl) (fun e=>by cases e) HN1.o (HN2.o _ HYC.o) (bl_ _) HZ1.o HZ2.o HYC.o.size ?_;intro v1 w5 hown1 hgrow1;rw[Nat.zero_add]at hown1;obtain⟨ao1,cap1,rfl⟩:=aY_ hown1;have HO1:=hi_ hown1;have HD5:=hi_ (HYC.o.grown hgrow1 HYC.o.size (fun k hk=>by simp[Value.ownBlock]at hk;omega));have HH5:Hd (∀j u,[Value.int .i64 h][j]?=some u->w5.cell? ((⟨w4.heap.size,0,none⟩:Addr).add j)=some u):=hi_ (fun j u hu=>by
          have h1:=HGC.o j u hu;rw[dK_]at h1 ⊢;refine hgrow1.cell (a:=⟨w4.heap.size,0+j,none⟩) ?_ (by simp[Value.ownBlock]);exact(World.cell?_alloc_lt _ _ _ (by simp)).trans h1)
         clear hown1 hgrow1)
      | (with_reducible refine bo_ w5 ?_
         refine aB_ (by rfl) _ _ 39 (by rfl) w4.heap.size 3 i1 _ 1 8 Tryz.underlying39 hi1 hy0 hy1' hy2' rfl (by decide) (.slice ao1 k cap1) k (aF_ (l.take k)) (by rfl) HO1.o (some ⟨w4.heap.size+1,0,none⟩) 1 1 [.int .i64 h] (by rfl) (fun e=>by cases e) rfl (fun ad had=>by injection had with had;subst had;exact HH5.o) (bl_ [h]) HZ3.o HZ4.o HD5.o.size ?_;intro v2 w6 hown2 hgrow2;obtain⟨ao2,cap2,rfl⟩:=aY_ hown2;have HO2:=hi_ hown2;have HD6:=hi_ (HD5.o.grown hgrow2 HD5.o.size (fun k hk=>(HO1.o.lt k hk).1));clear hown2 hgrow2)
      | (with_reducible refine bo_ w5 ?_
         refine aB_ (by rfl) _ _ 39 (by rfl) w4.heap.size 3 i1 _ 1 8 Tryz.underlying39 hi1 hy0 hy1' hy2' rfl (by decide) (.slice ao1 k cap1) k (aF_ (l.take k)) (by rfl) HO1.o (some ⟨w4.heap.size,0,none⟩) 1 1 [.int .i64 h] (by rfl) (fun e=>by cases e) rfl (fun ad had=>by injection had with had;subst had;exact HH5.o) (bl_ [h]) HZ3.o HZ4.o HD5.o.size ?_;intro v2 w6 hown2 hgrow2;obtain⟨ao2,cap2,rfl⟩:=aY_ hown2;have HO2:=hi_ hown2;have HD6:=hi_ (HD5.o.grown hgrow2 HD5.o.size (fun k hk=>(HO1.o.lt k hk).1));clear hown2 hgrow2)
      | (with_reducible refine bo_ (w5.alloc (.cells #[.int .i64 h] 3)) ?_
         have HD5b:=hi_ (HD5.o.alloc HD5.o.size (.cells #[.int .i64 h] 3));refine aB_ (by rfl) _ _ 39 (by rfl) w4.heap.size 3 i1 _ 1 8 Tryz.underlying39 hi1 hy0 hy1' hy2' rfl (by decide) (.slice ao1 k cap1) k (aF_ (l.take k)) (by rfl) (World.ownsRow.alloc HO1.o _) (some ⟨w5.heap.size,0,none⟩) 1 1 [.int .i64 h] (by rfl) (fun e=>by cases e) rfl (fun ad had=>by injection had with had;subst had;exact World.news_of_block (cs:=#[.int .i64 h]) (heap_alloc_new w5 (.cells #[.int .i64 h] 3))) (bl_ [h]) HZ3.o HZ4.o HD5b.o.size ?_;intro v2 w6 hown2 hgrow2;obtain⟨ao2,cap2,rfl⟩:=aY_ hown2;have HO2:=hi_ hown2;have HD6:=hi_ (HD5b.o.grown hgrow2 HD5b.o.size (fun k hk=>(HO1.o.lt k hk).1));clear hown2 hgrow2)
      | (with_reducible refine bo_ w6 ?_
         refine aB_ (by rfl) _ _ 39 (by rfl) w4.heap.size 3 i1 _ 1 8 Tryz.underlying39 hi1 hy0 hy1' hy2' rfl (by decide) (.slice ao2 (k+1) cap2) (k+1) (aF_ (l.take k)++[.int .i64 h]) (by rfl) HO2.o (some (if cap=k then(⟨g,0,none⟩:Addr) else⟨g,k,none⟩)) (l.length-k) (cap-k) (aF_ (l.drop k)) (by show Value.slice (if cap=k then some (⟨g,0,none⟩:Addr)else some ⟨g,k,none⟩) (l.length-k) (cap-k)=_;split<;>rfl) (fun e=>by cases e) HNl.o (HN4.o _ HD6.o) (bl_ _) HZ5.o HZ6.o HD6.o.size ?_;intro v3 w7 hown3 hgrow3;obtain⟨ao3,cap3,rfl⟩:=aY_ hown3;have HO3:=hi_ hown3;have HD7:=hi_ (HD6.o.grown hgrow3 HD6.o.size (fun k hk=>(HO2.o.lt k hk).1));have f5:=(ab_.cell aV_ (HMb.o w7 HD7.o).row HP1.o (k:=5) (by omega)).2;have k5:=((HMb.o w7 HD7.o).cell HP1.o).2.2.2.2.2.1
         rw[HG1.o.1]at f5 k5;have hyS:=(World.cell?_of_block (a:=⟨M.mb,0,none⟩) (Below.heap_setCell w7 ⟨M.g,p*7+5,none⟩ (.slice ao3 (k+1+(l.length-k)) cap3) M.mb HMG.o)).trans (HS0.o w7 HD7.o);clear hown3 hgrow3))
    all_goals (
     rw[show(if cap=k then some (⟨g,0,none⟩:Addr)else some ⟨g,k,none⟩)=some (if cap=k then(⟨g,0,none⟩:Addr) else⟨g,k,none⟩) by split<;>rfl];generalize (if cap=k then(⟨g,0,none⟩:Addr) else⟨g,k,none⟩)=adx;go_wp2_with fail
     go_meet
     refine⟨_,w7,rfl,HD7,hi_ ?_⟩;have hown:=HO3.o;unfold cd_;have e1:(l.take k++h :: l.drop k).length=k+1+(l.length-k):=by
      have:=HKl.o;rw[List.length_append,List.length_cons,List.length_take,List.length_drop];omega
     have e2:aF_ (l.take k++h :: l.drop k)=aF_ (l.take k)++[.int .i64 h]++aF_ (l.drop k):=by unfold aF_;simp
     rw[e1,e2];exact hown)
  obtain⟨v,W6,rfl,HB6,HO6⟩:=hcut;have hM6:=HMb.o W6 HB6.o;obtain⟨l',hl'⟩:∃l',l'=l.take k++h :: l.drop k:=⟨_,rfl⟩;rw[<-hl']at HO6;have hat:(M1.at_ p).n.kids=l:=by rw[<-M1.nd_at];exact HLl.o
  have hBB:M1.B<=w4.heap.size:=by
   have h1:=HM4.o.bb;have h2:=HM4.o.top.2.1;omega
  have hst:=hM6.store HP1.o (k:=5) (by omega) v (fun x=>{ x with kv:=v,n:={ x.n with kids:=x.n.kids.take k++h :: x.n.kids.drop k } }) rfl
   (by
    show cd_ M1.B W6 v ((M1.at_ p).n.kids.take k++h :: (M1.at_ p).n.kids.drop k);rw[hat,<-hl'];exact ca_ HO6.o hBB)
   (show ab_ aj_ M1.B 143 2 W6 (M1.at_ p).av (M1.at_ p).n.attrs from hM6.attrs _ (aJ_.at_mem HP1.o).2)
   (fun j hj hjl g hg hg2=>by
    have h1:=(HO6.o.lt g hg).1;have h2:=((HM4.o.kids _ (aJ_.at_mem hjl).2).lt g hg2).2
    omega)
   (fun j hj hjl g hg=>hM6.aapart p j HP1.o hjl (fun e=>hj e.symm) g hg)
  rw[HG1.o.1]at hst;have HST:=hi_ hst;have L1:=cC_ M1 p (fun x=>{ x with kv:=v,n:={ x.n with kids:=x.n.kids.take k++h :: x.n.kids.drop k } });have hm1:=el_ M1 p (fun x=>{ x with kv:=v,n:={ x.n with kids:=x.n.kids.take k++h :: x.n.kids.drop k } }) (fun x=>{ x with kids:=x.kids.take k++h :: x.kids.drop k }) (fun x=>rfl);have HMm1:=hi_ hm1;have HL2:=hi_ (L1.trans HG1.o.2);have HF7:=hi_ (frG (g:=M.g) (HF4.o.below_ HB6.o) (p*7+5) v);have hnG:(Value.slice (some ⟨gg,0,none⟩) (lo.length+1) cap2).ownBlock≠some M.g:=fun e=>aQ_ HO8.o HM4.o.row (by decide) e (by rw[<-HG1.o.1];rfl);have HnG:=hi_ hnG;have HR7:=hi_ (au_ (own_below HO8.o HB6.o) hnG (p*7+5) v);obtain⟨M2,hM2⟩:∃M2,M2=M1.modN p (fun x=>{ x with kv:=v,n:={ x.n with kids:=x.n.kids.take k++h :: x.n.kids.drop k } }):=⟨_,rfl⟩
  have HM2e:=hi_ hM2;rw[<-hM2]at HST HMm1 HL2;have E1:M2.mb=M.mb/\M2.g=M.g/\M2.B=M.B:=by rw[hM2];exact⟨HL1.o.mb,HG1.o.1,HL1.o.B⟩
  have HE1:=hi_ E1;have HV:=hi_ (fun k (hk:v.ownBlock=some k)=>Nat.le_trans HF4.o.size (HO6.o.lt k hk).1);have HH1:=hi_ (show h<M2.nodes.length by rw[HL2.o];exact HHl.o);clear hst L1 hm1 hM2 hM6 hat hl' E1 hBB hnG c04 l04 l14 HMb;generalize W6.setCell ⟨M.g,p*7+5,none⟩ v=w7 at *;obtain⟨c07,l07,l17⟩:=HST.o.top;have k4:=(HST.o.cell HH1.o).2.2.2.2.1;have f4:=(ab_.cell aV_ HST.o.row HH1.o (k:=4) (by omega)).2;rw[HE1.o.1,HE1.o.2.1,HL2.o]at c07;rw[HE1.o.2.1]at k4 f4;have hst2:=HST.o.storeP HH1.o (k:=4) (by omega) (.int .i64 p) (fun x=>{ x with n:={ x.n with parent:=some p } }) rfl ⟨rfl,rfl,rfl,rfl⟩;rw[HE1.o.2.1]at hst2;have HST2:=hi_ hst2;have HF8:=hi_ (frG HF7.o (h*7+4) (.int .i64 p));have HR8:=hi_ (au_ HR7.o HnG.o (h*7+4) (.int .i64 p));clear hst2;go_wp2_with fail
  generalize w7.setCell ⟨M.g,h*7+4,none⟩ (.int .i64 p)=w8 at *;have hfin:∃v' M',Ending.returned (.tuple #[.slice (some ⟨gg,0,none⟩) (lo.length+1) cap2,.int .i64 0])=Ending.returned (.tuple #[v',.int .i64 RI.2.1])/\H.Frame (fun k=>k=M.g) w w8/\ac_ w8 M'/\M'.m=RI.2.2/\aO_ w M M'/\aI_ w.heap.size w8 v' RI.1:=by
   refine⟨_,M2.modN h (fun x=>{ x with n:={ x.n with parent:=some p } }),by rw[HRr.o];rfl,HF8.o,HST2.o,?_,⟨HE1.o.1,HE1.o.2.2,fun k hk=>?_⟩,?_⟩
   ·rw[HRr.o,el_ M2 h _ (fun x=>{ x with parent:=some p }) (fun x=>rfl),HMm1.o]
    rfl
   ·have hfoot1:∀k,M2.foot k->M.foot k\/w.heap.size<=k:=fun k hk=>by
     rw[HM2e.o]at hk
     rcases b5_ HP1.o hk with h1|h1|h1
     ·exact HL1.o.foot k h1
     ·exact Or.inr (HV.o k h1)
     exact HL1.o.foot k (Or.inr (Or.inr ⟨_,(aJ_.at_mem HP1.o).2,Or.inr h1⟩))
    rcases b5_ HH1.o hk with h1|h1|h1
    ·exact hfoot1 k h1
    ·exact hfoot1 k (Or.inr (Or.inr ⟨_,(aJ_.at_mem HH1.o).2,Or.inl h1⟩))
    exact hfoot1 k (Or.inr (Or.inr ⟨_,(aJ_.at_mem HH1.o).2,Or.inr h1⟩))
   rw[HRr.o];exact HR8.o
  refine bodyPost_ret (v:=.tuple #[.slice (some ⟨gg,0,none⟩) (lo.length+1) cap2,.int .i64 0]) (by simp[results,Tryz.results62,go_sem]) rfl ?_
  first|exact hfin|(obtain⟨v,M',f1,f2,f3⟩:=hfin;exact⟨v,f1,f2,M',f3⟩)
end R
end
end Go.Proofs.YtinphfpdfodkkaaGreatDoor
