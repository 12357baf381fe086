/- Texts. -/
import Derived.Test.YtinphfpdfodkkaaGreatDoorS07
set_option linter.unusedVariables false
set_option linter.unusedSimpArgs false
set_option maxHeartbeats 8000000
set_option maxRecDepth 100000
namespace Go.Proofs.YtinphfpdfodkkaaGreatDoor
section
open Go.RowKit Go.Sort
namespace R
open H G A
theorem mHeight(M:aJ_)(w:World)(h:ac_ w M)(W:WF M.m):∀(n i:Nat),ay_ M.m i<=n->i<M.nodes.length->Calls Tryz.prog 121 #[.pointer (some ⟨M.mb,0,none⟩),.int .i64 i] w fun e w'=>e=.returned (.int .i64 (ay_ M.m i:Nat))/\w=w':=by
 intro n
 induction n with
 |zero=>
  intro i hn hi;rw[W.height_eq i]at hn;omega
 |succ n ih=>
 intro i hn hi;obtain⟨c0,l0,l1⟩:=h.top;have k5:=(h.cell hi).2.2.2.2.2.1;obtain⟨ao,cap,hv,hc⟩:=cd_.form (h.kidsRow hi);rw[hv]at k5;have n1:(i:Int)<(M.nodes.length:Int):=by omega
 have IH:=hi_ (fun(c:Nat) (hc:c∈(nd M.m i).kids)=>ih c (by have:=W.height_kid hc;omega) (by rw[<-M.m_len];exact(W.kid i c hc).1));have HE:=hi_ (W.height_eq i);have hfew:=h.few;have hln:(nd M.m i).kids.length<=1000000:=by
  have h1:(nd M.m i).kids.length<=(List.range M.nodes.length).length:=List.Nodup.length_le_of_subset (W.nodup i) (fun x hx=>List.mem_range.2 (by rw[<-M.m_len];exact(W.kid i x hx).1));rw[List.length_range]at h1;omega
 generalize hl:(nd M.m i).kids=l at *;have HC:=hi_ hc;generalize hlen:l.length=len at *;have HLen:=hi_ hlen;clear ih h hn hi hv hc hl hlen
 go_enter Tryz.func121,Tryz.ntmps121
 go_wp2_with fail
 go_loopw [5,6] (fun v5 v6 wr=>∃q:Nat,v5=.int .i64 (eC_ ((l.take q).map (ay_ M.m)):Nat)/\v6=.int .i64 (q:Nat)/\q<=len/\wr=w) (fun _ v6 _=>len-(a2_ v6).toNat)
 case atStart=>exact⟨0,rfl,rfl,by omega,rfl⟩
 obtain⟨q,rfl,rfl,hq0,rfl⟩:=hrel;have hm1:=jZ_ M.m (l.take q);generalize hmx:eC_ ((l.take q).map (ay_ M.m))=mx at *;have HMX:=hi_ hmx;clear hmx
 by_cases hq:q=len
 ·have hF2:Hd ((mx:Int)+1=(ay_ M.m i:Nat)):=hi_ (by
   rw[HE.o,<-HMX.o,List.take_of_length_le (by rw[HLen.o];omega)];rfl)
  have hnl:¬((q:Int)<(len:Int)):=by omega
  clear hq;go_wp2_with fail
  go_ret
  exact⟨aE_ (by have:=hF2.out;simpa using this),rfl⟩
 have hil:q<l.length:=by rw[HLen.o];omega
 have hlt:(q:Int)<(len:Int):=by omega
 have hx:l[q]?=some l[q]:=List.getElem?_eq_getElem hil;obtain⟨g,rfl,hg1,hcell⟩:=HC.o _ _ hx;have hm2:=h8_ (f:=ay_ M.m) hx;have Q3:=hi_ (IH.o _ (List.mem_of_getElem? hx));have hm3:=dP_ M.m l[q];generalize l[q]=c at *;rw[HMX.o]at hm2;have HM2:=hi_ hm2;generalize ay_ M.m c=hc at *;have wq:IntKind.i64.wrap ((q:Int)+1)=(q:Int)+1:=IntWalk.i64_in _ (by omega);clear hx hm2 hil hq;go_wp2_with fail
 refine Q3.o.mono ?_;rintro e w3 ⟨rfl,rfl⟩;go_wp2_with fail
 go_roundw
 case rel=>
  refine⟨q+1,?_,?_,by omega,trivial⟩
  ·rw[HM2.o]
   congr 1
   omega
  first|rfl|(congr 1)
 show len-((q:Int)+1).toNat<len-((q:Int)).toNat;omega
def iG_(m:aa_)(p h:Nat):Bool:=if h=0\/contains m h p=true then false else if (nd m p).kind=2 then true else if p≠0\/(nd m h).kind=3 then false else(nd m 0).kids.all (fun k=>k==h || (nd m k).kind != 2 || (nd m h).kind != 2)
theorem ng_{m:aa_}(W:WF m){p h:Nat}(hp:p<m.length)(hh:h<m.length):iG_ m p h=may m p h:=by
 have hk1:∀i,i<m.length->((nd m i).kind=1↔i=0):=fun i hi=>by
  constructor
  ·intro h1
   rcases Nat.eq_zero_or_pos i with h0|h0
   ·exact h0
   have:=(W.kinds i hi h0).1;omega
  rintro rfl;exact W.doc.2.1
 unfold iG_ may
 by_cases c1:h=0
 ·have:=(hk1 h hh).2 c1
  rw[if_pos (Or.inl c1),this];rfl
 have h1:((nd m h).kind==1)=false:=bn_ (fun e=>c1 ((hk1 h hh).1 e));rw[h1]
 cases cc:contains m h p with
 |true=>rw[if_pos (Or.inr rfl)];simp
 |false=>
  rw[if_neg (by rintro(e|e);exact c1 e;cases e)]
  by_cases c2:(nd m p).kind=2
  ·rw[if_pos c2,c2];rfl
  rw[if_neg c2];have h2:((nd m p).kind==2)=false:=bn_ c2;rw[h2]
  by_cases c3:p=0
  ·subst c3
   rw[W.doc.2.1]
   by_cases c4:(nd m h).kind=3
   ·rw[if_pos (Or.inr c4),c4];rfl
   rw[if_neg (by rintro(e|e);exact e rfl;exact c4 e)];have hkk:(nd m h).kind=2\/(nd m h).kind=4:=by
    have h0:0<h:=by omega
    have:=W.kinds h hh h0;omega
   rcases hkk with e|e
   ·rw[e]
    simp
   rw[e];simp
  rw[if_pos (Or.inl c3)];have h3:((nd m p).kind==1)=false:=bn_ (fun e=>c3 ((hk1 p hp).1 e));rw[h3];rfl
end R
end
end Go.Proofs.YtinphfpdfodkkaaGreatDoor
