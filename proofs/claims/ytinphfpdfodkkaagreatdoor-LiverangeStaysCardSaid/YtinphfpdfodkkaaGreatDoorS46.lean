/- Texts. -/
import Derived.Test.YtinphfpdfodkkaaGreatDoorS44
import Derived.Test.YtinphfpdfodkkaaGreatDoorS27
import Derived.Test.YtinphfpdfodkkaaGreatDoorS45
set_option linter.unusedVariables false
set_option linter.unusedSimpArgs false
set_option maxHeartbeats 8000000
set_option maxRecDepth 100000
namespace Go.Proofs.YtinphfpdfodkkaaGreatDoor
section
open Go.RowKit Go.Sort
namespace A
open H G R
theorem iU_{m:aa_}{p q:Nat}(h:has m (cf_ m p)=true):eh_ m p q<=G.sizeOf m (cf_ m p):=by
 unfold eh_;rw[if_pos h];have:=Nat.mod_lt q (show 0<G.sizeOf m (cf_ m p)+1 by omega);omega
theorem mq_{w:World}{g:Nat}{t:TypeId}{a b:Value}(h:Blk g #[a,b] t w):w.cell? ⟨g,0,none⟩=some a/\w.cell? ⟨g,1,none⟩=some b/\(∀d:Later w.heap.size w,d.w.cell? ⟨g,0,none⟩=some a)/\∀d:Later w.heap.size w,d.w.cell? ⟨g,1,none⟩=some b:=
 ⟨(ae_ h).1 0,(ae_ h).1 1,fun d=>Later.cell ((ae_ h).1 0) h.lt d,fun d=>Later.cell ((ae_ h).1 1) h.lt d⟩
theorem lB_(w:World)(i k:Nat)(z:Int):Below w.heap.size w ((w.alloc (.cells #[.int .i64 i,.int .i64 k] 30)).alloc (.cells #[.int .i64 z,.int .i64 k] 31)) ∧
  Blk w.heap.size #[.int .i64 i,.int .i64 k] 30 ((w.alloc (.cells #[.int .i64 i,.int .i64 k] 30)).alloc (.cells #[.int .i64 z,.int .i64 k] 31)) ∧
  Blk (w.heap.size+1) #[.int .i64 z,.int .i64 k] 31 ((w.alloc (.cells #[.int .i64 i,.int .i64 k] 30)).alloc (.cells #[.int .i64 z,.int .i64 k] 31)):=by
 refine⟨((Below.refl w.heap.size w).alloc (nl_) _).alloc (by simp) _,(Blk.new w _ _).alloc _,?_⟩;have h:=Blk.new (w.alloc (.cells #[.int .i64 i,.int .i64 k] 30)) #[.int .i64 z,.int .i64 k] 31;simpa using h
end A
end
section
open Go.RowKit Go.Sort
namespace A
open H G R
section
variable {w W:World} {M:aJ_} {z k:Int} {cs:Array Value}
variable {T:am_} {m:aa_} {pos:Nat->Nat} {a b i j:Nat}
end
end A
end
section
open Go.RowKit Go.Sort
namespace A
open H G R
theorem cl_{w:World}{S:bh_}(h:an_ w S){k:Nat}{cs:Array Value}{t:TypeId}(hb:Blk k cs t w)(ht:∀s∈hn_,s≠t):¬S.foot k:=fun hs=>by
 obtain⟨s,hs2,h2⟩:=h.typed hs;exact ht s hs2 (h2.eq ⟨cs,hb⟩)
section
variable {w4 W W':World} {S S':bh_} {gA gP gB gQ a i b j:Nat} {za zb:Int}
end
end A
end
section
open Go.RowKit Go.Sort
namespace A
open H G R
end A
end
section
open Go.RowKit Go.Sort
namespace A
open H G R
section
variable {w w':World} {S:bh_} {g cap i:Nat}
theorem lM_(h:an_ w S)(hv:S.rv=.slice (some ⟨g,0,none⟩) S.rs.length cap)(hi:i<S.rs.length):iO_ w g (i*5+1) S.rs[i].sn S.rs[i].si/\iO_ w g (i*5+3) S.rs[i].en S.rs[i].ei:=by
 have hr:=h.rows;rw[hv]at hr;have c:=fun k (hk:k<5)=>ab_.cell aC_ hr hi (k:=k) hk;have hl:=(ad_ hr).1;exact⟨⟨(c 1 (by omega)).1,(c 2 (by omega)).1,(c 1 (by omega)).2,(c 2 (by omega)).2,hl⟩,⟨(c 3 (by omega)).1,(c 4 (by omega)).1,(c 3 (by omega)).2,(c 4 (by omega)).2,hl⟩⟩
theorem jf_{f:Rg->Rg}{l:List Rg}{i:Nat}(hi:i<l.length)(h:f l[i]=l[i]):l.modify i f=l:=by
 refine List.ext_getElem (by rw[List.length_modify]) fun j h1 h2=>?_;rw[List.getElem_modify]
 split
 ·rename_i e;subst e;exact h
 rfl
theorem bh_.ext_rs{S:bh_}{l:List Rg}(h:l=S.rs):({ S with rs:=l }:bh_)=S:=by rw[h]
theorem foot_rv(hv:S.rv=.slice (some ⟨g,0,none⟩) S.rs.length cap):S.foot g:=Or.inr (Or.inl (by rw[hv];rfl))
theorem h5_(h:an_ w S)(hv:S.rv=.slice (some ⟨g,0,none⟩) S.rs.length cap)(hi:i<S.rs.length){c:Nat}(hc:c+1<5){f:Int->Int->Rg->Rg}{z k z' k':Int}(hM:eA_ w w' g (i*5+c) z k z' k')
  (h0:f z k S.rs[i]=S.rs[i]) (h1:bc_ (f z k' S.rs[i])=(bc_ S.rs[i]).set (c+1) (.int .i64 k')) (h2:bc_ (f z' k S.rs[i])=(bc_ S.rs[i]).set c (.int .i64 z'))
  (h3:bc_ (f z' k' (f z' k S.rs[i]))=(bc_ (f z' k S.rs[i])).set (c+1) (.int .i64 k')) (h4:f z' k' (f z' k S.rs[i])=f z' k' S.rs[i]) :
  H.Frame S.foot w w'/\an_ w' { S with rs:=S.rs.modify i (f z' k') }:=by
 have hfo:S.foot g\/w.heap.size<=g:=Or.inl (foot_rv hv)
 rcases hM with⟨hb,rfl,rfl⟩|⟨d,hb,hd,rfl⟩|⟨d,hb,hd⟩
 ·exact⟨Frame.of hb,by rw[bh_.ext_rs (jf_ hi h0)];exact h.below hb⟩
 ·refine⟨(Frame.set (Frame.of hb) hfo _ _).below_ hd,an_.below ?_ hd⟩
  exact(h.below hb).put hv hi (k:=c+1) hc (.int .i64 k') (f z' k') h1
 refine⟨(Frame.set (Frame.set (Frame.of hb) hfo _ _) hfo _ _).below_ hd,an_.below ?_ hd⟩;have p1:=(h.below hb).put hv hi (k:=c) (by omega) (.int .i64 z') (f z' k) h2;have hi1:i<(S.rs.modify i (f z' k)).length:=by rw[List.length_modify];exact hi
 have e1:(S.rs.modify i (f z' k))[i]=f z' k S.rs[i]:=List.getElem_modify_eq ..;have p2:=p1.put (i:=i) (by show S.rv=.slice _ (S.rs.modify i _).length cap;rw[List.length_modify];exact hv) hi1 (k:=c+1) hc (.int .i64 k') (f z' k') (by show bc_ (f z' k' (S.rs.modify i (f z' k))[i])=(bc_ (S.rs.modify i (f z' k))[i]).set _ _;rw[e1];exact h3);have e:(S.rs.modify i (f z' k)).modify i (f z' k')=S.rs.modify i (f z' k'):=by
  refine List.ext_getElem (by simp) fun j h1 h2=>?_;rw[List.getElem_modify,List.getElem_modify,List.getElem_modify]
  split
  ·rename_i e;subst e;exact h4
  rfl
 rw[show({ S with rs:=S.rs.modify i (f z' k') }:bh_)={ S with rs:=(S.rs.modify i (f z' k)).modify i (f z' k') } by rw[e]];exact p2
def putS(z k:Int)(x:Rg):Rg:=nS_ x z k
def putE(z k:Int)(x:Rg):Rg:=ct_ x z k
theorem je_(h:an_ w S)(hv:S.rv=.slice (some ⟨g,0,none⟩) S.rs.length cap)(hi:i<S.rs.length){z k z' k':Int}(hz:S.rs[i].sn=z)(hk:S.rs[i].si=k)(hM:eA_ w w' g (i*5+1) z k z' k') :
  H.Frame S.foot w w'/\an_ w' { S with rs:=S.rs.modify i (putS z' k') }:=by
 subst hz hk;exact h5_ h hv hi (c:=1) (f:=putS) (by omega) hM rfl rfl rfl rfl rfl
theorem l8_(h:an_ w S)(hv:S.rv=.slice (some ⟨g,0,none⟩) S.rs.length cap)(hi:i<S.rs.length){z k z' k':Int}(hz:S.rs[i].en=z)(hk:S.rs[i].ei=k)(hM:eA_ w w' g (i*5+3) z k z' k') :
  H.Frame S.foot w w'/\an_ w' { S with rs:=S.rs.modify i (putE z' k') }:=by
 subst hz hk;exact h5_ h hv hi (c:=3) (f:=putE) (by omega) hM rfl rfl rfl rfl rfl
end
def mkR(T:am_)(pos:Nat->Nat)(x:Int×(Nat×Nat)×(Nat×Nat)):Rg:=⟨x.1,hd T pos x.2.1.1,(x.2.1.2:Nat),hd T pos x.2.2.1,(x.2.2.2:Nat)⟩
def goR(m:aa_)(r:Rec)(x:Int×(Nat×Nat)×(Nat×Nat)):Int×(Nat×Nat)×(Nat×Nat):=(x.1,bi_ m r x.2.1,bi_ m r x.2.2)
structure gJ_(m:aa_)(r:Rec):Prop where
 tgt:has m r.target=true
 cut:r.kind=2->∃h,r.node=some h/\has m h=true
 num:r.index<=1000000/\r.count<=1000000/\r.size<=1000000
structure PtIn(m:aa_)(B:Nat)(x:Int×(Nat×Nat)×(Nat×Nat)):Prop where
 ha:has m x.2.1.1=true
 hb:has m x.2.2.1=true
 ka:x.2.1.2<=B
 kb:x.2.2.2<=B
theorem b1_{α:Type}{c:α->List Value}{w:World}{g:Nat}{t:TypeId}{r:α}(h:Blk g (c r).toArray t w)(k:Nat):w.cell? ⟨g,k,none⟩=(c r)[k]?:=by
 rw[(ae_ h).1 k];simp
theorem upd2_(T:am_)(m:aa_)(pos:Nat->Nat)(r:Rec)(q:Nat×Nat)(g o bt br:Nat)(w:World)(hT:ag_ w T m pos)(hBt:Blk bt #[.pointer (some ⟨T.tb,0,none⟩)] 37 w)(hBr:Blk br (av_ T pos r).toArray 73 w)
  (hq:has m q.1=true) (hr:gJ_ m r) (hqb:q.2<=1000000000) (hP:iO_ w g o (hd T pos q.1) (q.2:Nat)) :
  Calls Tryz.prog 76 #[.pointer (some ⟨g,o,none⟩),.pointer (some ⟨bt,0,none⟩),.pointer (some ⟨br,0,none⟩)] w fun e w'=>e=.returned (.tuple #[])/\eA_ w w' g o (hd T pos q.1) (q.2:Nat) (hd T pos (bi_ m r q).1) ((bi_ m r q).2:Nat):=by
 have QA:=hi_ (adjust_ T m pos r q g o w hT hq hr.tgt hr.cut hqb hr.num hP);have b0:=(ae_ hBt).1 0;have b1:=hBt.lt;have r0:=b1_ hBr 0;have r1:=b1_ hBr 1;have r2:=b1_ hBr 2;have r3:=b1_ hBr 3;have r4:=b1_ hBr 4;have r5:=b1_ hBr 5;have r6:=b1_ hBr 6;have r7:=b1_ hBr 7;have r8:=b1_ hBr 8;have r9:=b1_ hBr 9;have r10:=b1_ hBr 10;have r11:=hBr.lt;simp only[av_,List.getElem?_cons_zero,List.getElem?_cons_succ]at r0 r1 r2 r3 r4 r5 r6 r7 r8 r9 r10;obtain⟨PM,hPM⟩:∃PM:World->Prop,PM=fun w'=>eA_ w w' g o (hd T pos q.1) (q.2:Nat) (hd T pos (bi_ m r q).1) ((bi_ m r q).2:Nat):=⟨_,rfl⟩;have HPM:=hi_ hPM
 have QB:Hd (Calls Tryz.prog 77 #[.pointer (some ⟨T.tb,0,none⟩),.pointer (some ⟨g,o,none⟩),lY_ T pos r] w fun e w'=>e=.returned (.tuple #[])/\PM w'):=hi_ (by rw[hPM];exact QA.o);show Calls _ _ _ _ fun e w'=>e=.returned (.tuple #[])/\eA_ w w' g o (hd T pos q.1) (q.2:Nat) (hd T pos (bi_ m r q).1) ((bi_ m r q).2:Nat);have hgoal:Calls Tryz.prog 76 #[.pointer (some ⟨g,o,none⟩),.pointer (some ⟨bt,0,none⟩),.pointer (some ⟨br,0,none⟩)] w fun e w'=>e=.returned (.tuple #[])/\PM w':=by
  clear HPM hPM QA hT hBt hBr hq hr hqb hP;unfold lY_ av_ at QB
  go_enter Tryz.func76,Tryz.ntmps76
  go_wp2_with fail
  refine QB.o.mono ?_;rintro e w2 ⟨rfl,hw2⟩;go_wp2_with fail
  exact bodyPost_end (v:=.tuple #[]) (by simp[results,Tryz.results76,go_sem]) rfl ⟨rfl,hw2⟩
 rw[HPM.o]at hgoal;exact hgoal
end A
end
section
open Go.RowKit Go.Sort
namespace A
open H G R
theorem g3_{α β:Type}(c:α->β)(f:β->β)(h:α->α)(L:List α)(i:Nat)(hi:i<L.length)(e:f (c L[i])=c (h L[i])):(L.map c).modify i f=(L.modify i h).map c:=by
 refine List.ext_getElem (by simp) fun j h1 h2=>?_;rw[List.getElem_modify,List.getElem_map,List.getElem_map,List.getElem_modify]
 split
 ·rename_i e2;subst e2;exact e
 rfl
theorem step_mod{α:Type}(G:α->α)(P:List α)(i:Nat)(hi:i<P.length):((P.take i).map G++P.drop i).modify i G=(P.take (i+1)).map G++P.drop (i+1):=by
 have hl:((P.take i).map G).length=i:=by simp;omega
 refine List.ext_getElem? fun j=>?_;rw[List.getElem?_modify]
 rcases Nat.lt_trichotomy j i with h|h|h
 ·rw[List.getElem?_append_left (by omega),List.getElem?_append_left (by simp;omega)]
  rw[List.getElem?_map,List.getElem?_map,List.getElem?_take,List.getElem?_take,if_pos h,if_pos (by omega)]
  cases P[j]? with
  |none=>rfl
  |some x=>show some (if i=j then G (G x)else G x)=some (G x);rw[if_neg (by omega)]
 ·subst h
  rw[List.getElem?_append_right (by omega),hl,Nat.sub_self,List.getElem?_append_left (by simp;omega),List.getElem?_drop,List.getElem?_map,List.getElem?_take,if_pos (by omega),Nat.add_zero,List.getElem?_eq_getElem hi];simp
 rw[List.getElem?_append_right (by omega),hl,List.getElem?_append_right (by simp;omega),List.getElem?_drop,List.getElem?_drop];have e:(List.map G (List.take (i+1) P)).length=i+1:=by simp;omega
 rw[e,show i+(j-i)=j by omega,show i+1+(j-(i+1))=j by omega]
 cases P[j]? with
 |none=>rfl
 |some x=>show some (if i=j then G x else x)=some x;rw[if_neg (by omega)]
theorem hI_{α:Type}(G:α->α)(P:List α)(i:Nat)(hi:i<P.length)(h:i<((P.take i).map G++P.drop i).length):((P.take i).map G++P.drop i)[i]=P[i]:=by
 have hl:((P.take i).map G).length=i:=by simp;omega
 rw[List.getElem_append_right (by omega)];simp only[hl,Nat.sub_self,List.getElem_drop,Nat.add_zero]
def dL_(m:aa_)(r:Rec)(P:List (Int×(Nat×Nat)×(Nat×Nat)))(i:Nat):List (Int×(Nat×Nat)×(Nat×Nat)):=(P.take i).map (goR m r)++P.drop i
theorem eJ_(m:aa_)(r:Rec)(P:List (Int×(Nat×Nat)×(Nat×Nat))){i:Nat}(hi:i<=P.length):(dL_ m r P i).length=P.length:=by
 unfold dL_;simp;omega
def et_(m:aa_)(r:Rec)(x:Int×(Nat×Nat)×(Nat×Nat)):Int×(Nat×Nat)×(Nat×Nat):=(x.1,bi_ m r x.2.1,x.2.2)
theorem jo_{m:aa_}{r:Rec}{P:List (Int×(Nat×Nat)×(Nat×Nat))}{T:am_}{pos:Nat->Nat}{i:Nat}(hi:i<P.length) :
  ((dL_ m r P i).map (mkR T pos)).modify i (putS (hd T pos (bi_ m r P[i].2.1).1) ((bi_ m r P[i].2.1).2:Nat))=((dL_ m r P i).modify i (et_ m r)).map (mkR T pos):=
 g3_ _ _ _ _ _ (by rw[eJ_ _ _ _ (Nat.le_of_lt hi)];exact hi) (by rw[show(dL_ m r P i)[i]'(by rw[eJ_ _ _ _ (Nat.le_of_lt hi)];exact hi)=P[i]from hI_ _ _ _ hi _];rfl)
theorem jp_{m:aa_}{r:Rec}{P:List (Int×(Nat×Nat)×(Nat×Nat))}{T:am_}{pos:Nat->Nat}{i:Nat}(hi:i<P.length) :
  (((dL_ m r P i).modify i (et_ m r)).map (mkR T pos)).modify i (putE (hd T pos (bi_ m r P[i].2.2).1) ((bi_ m r P[i].2.2).2:Nat))=(dL_ m r P (i+1)).map (mkR T pos):=by
 have hl:i<(dL_ m r P i).length:=by rw[eJ_ _ _ _ (Nat.le_of_lt hi)];exact hi
 have e1:(dL_ m r P i)[i]=P[i]:=hI_ _ _ _ hi _;have e2:((dL_ m r P i).modify i (et_ m r))[i]'(by rw[List.length_modify];exact hl)=et_ m r P[i]:=by rw[List.getElem_modify_eq,e1]
 rw[g3_ (mkR T pos) _ (fun x=>(x.1,x.2.1,bi_ m r P[i].2.2)) _ i (by rw[List.length_modify];exact hl) (by rw[e2];rfl)]
 congr 1
 rw[show dL_ m r P (i+1)=(dL_ m r P i).modify i (goR m r)from (step_mod _ _ _ hi).symm];refine List.ext_getElem (by simp) fun j h1 h2=>?_;rw[List.getElem_modify,List.getElem_modify,List.getElem_modify]
 split
 ·rename_i e;subst e;rw[e1];rfl
 rfl
theorem each_(T:am_)(m:aa_)(pos:Nat->Nat)(r:Rec)(S:bh_)(P:List (Int×(Nat×Nat)×(Nat×Nat)))(bs bt br:Nat)(w:World)(hT:ag_ w T m pos)(hS:an_ w S)(hBs:Blk bs #[.pointer (some ⟨S.sb,0,none⟩)] 109 w)(hBt:Blk bt #[.pointer (some ⟨T.tb,0,none⟩)] 37 w)(hBr:Blk br (av_ T pos r).toArray 73 w)
  (hP:S.rs=P.map (mkR T pos)) (hr:gJ_ m r) (hin:∀x∈P,PtIn m 1000000000 x) :
  Calls Tryz.prog 75 #[.func (.func 76) #[] #[.pointer (some ⟨bt,0,none⟩),.pointer (some ⟨br,0,none⟩)],.pointer (some ⟨bs,0,none⟩)] w fun e w'=>e=.returned (.tuple #[])/\H.Frame S.foot w w'/\an_ w' { S with rs:=(P.map (goR m r)).map (mkR T pos) }:=by
 obtain⟨ao,cap,hrv⟩:=ab_.slice hS.rows;have hlen:S.rs.length=P.length:=by rw[hP];simp
 have hfew:=hS.few.1;rw[hlen]at hrv hfew;have HRv:=hi_ hrv;have HSo:Hd (S={ S with rs:=(dL_ m r P 0).map (mkR T pos) }):=hi_ (by unfold dL_;simp only[List.take_zero,List.map_nil,List.nil_append,List.drop_zero];rw[<-hP]);have hAll:(dL_ m r P P.length)=P.map (goR m r):=by unfold dL_;simp
 have HS0:=hi_ hS;have HT0:=hi_ hT;have HBs:=hi_ hBs;have HBt:=hi_ hBt;have HBr:=hi_ hBr;have HIn:=hi_ hin;have HN:Hd (¬S.foot bs/\¬S.foot bt/\¬S.foot br):=hi_ ⟨cl_ hS hBs (by decide),cl_ hS hBt (by decide),cl_ hS hBr (by decide)⟩;have QU:=hi_ (fun(q:Nat×Nat) (g o:Nat) (W:World) (f:H.Frame S.foot w W) (hq:has m q.1=true) (hqb:q.2<=1000000000) (hp:iO_ W g o (hd T pos q.1) (q.2:Nat))=>upd2_ T m pos r q g o bt br W (hT.frame hS f) (hBt.frame f (cl_ hS hBt (by decide))) (hBr.frame f (cl_ hS hBr (by decide))) hq hr hqb hp);have sc:=cr_ hS.blk;obtain⟨s0,s1,s2,s3⟩:=sc;rw[hrv]at s0;have b0:=(ae_ hBs).1 0;have b1:=hBs.lt;rw[<-hAll];clear hT hS hBs hBt hBr hin hP hr hrv hlen hAll
 go_enter Tryz.func75,Tryz.ntmps75
 go_wp2_with fail
 clear s0 s1 s2 s3 b0 b1
 go_loopw [9] (fun v9 wr=>∃i:Nat,v9=.int .i64 i/\i<=P.length/\Hd (H.Frame S.foot w wr)/\Hd (an_ wr { S with rs:=(dL_ m r P i).map (mkR T pos) })) (fun v9 _=>P.length-(a2_ v9).toNat)
 case atStart=>exact⟨0,rfl,Nat.zero_le _,hi_ (Frame.refl _ _),hi_ (by rw[<-HSo.o];exact HS0.o)⟩
 obtain⟨i,rfl,hi,HF,HS⟩:=hrel
 by_cases hil:i<P.length
 ·have hiI:(i:Int)<(P.length:Int):=by omega
  have hlm:((dL_ m r P i).map (mkR T pos)).length=P.length:=by rw[List.length_map,eJ_ _ _ _ hi]
  have hli:i<((dL_ m r P i).map (mkR T pos)).length:=by rw[hlm];exact hil
  obtain⟨g,cap',e,_,hgl,_⟩:=a1_ HS.o.rows (by rw[hlm];omega);have e':S.rv=_:=e;rw[HRv.o,hlm]at e';injection e' with e1 _ e3
  subst e1 e3;have hv:S.rv=.slice (some ⟨g,0,none⟩) ((dL_ m r P i).map (mkR T pos)).length cap:=by rw[hlm];exact HRv.o
  have hat:((dL_ m r P i).map (mkR T pos))[i]=mkR T pos P[i]:=by rw[List.getElem_map];exact congrArg _ (hI_ _ _ _ hil _)
  have hpt:=(lM_ (S:={ S with rs:=(dL_ m r P i).map (mkR T pos) }) HS.o hv hli).1;have hx:=HIn.o P[i] (List.getElem_mem hil);have hpt2:iO_ wr g (i*5+1) (hd T pos P[i].2.1.1) (P[i].2.1.2:Nat):=by have h1:=hpt;dsimp only at h1;rw[hat]at h1;exact h1
  have Q1:=hi_ (QU.o P[i].2.1 g (i*5+1) wr HF.o hx.ha hx.ka hpt2);have HM1:=hi_ (fun(W:World) (hM:eA_ wr W g (i*5+1) (hd T pos P[i].2.1.1) (P[i].2.1.2:Nat) (hd T pos (bi_ m r P[i].2.1).1) ((bi_ m r P[i].2.1).2:Nat))=>je_ (S:={ S with rs:=(dL_ m r P i).map (mkR T pos) }) HS.o hv hli (by show((dL_ m r P i).map (mkR T pos))[i].sn=_;rw[hat];rfl) (by show((dL_ m r P i).map (mkR T pos))[i].si=_;rw[hat];rfl) hM);have HHm:=hi_ (jo_ (m:=m) (r:=r) (P:=P) (T:=T) (pos:=pos) hil);have HFm:=hi_ (jp_ (m:=m) (r:=r) (P:=P) (T:=T) (pos:=pos) hil);have hle2:((dL_ m r P i).modify i (et_ m r)).length=P.length:=by rw[List.length_modify,eJ_ _ _ _ hi]
  have HAt2:Hd (∀h,(((dL_ m r P i).modify i (et_ m r)).map (mkR T pos))[i]'h=mkR T pos (et_ m r P[i])):=hi_ (fun h=>by
   rw[List.getElem_map];refine congrArg _ ?_;rw[List.getElem_modify_eq];exact congrArg _ (hI_ _ _ _ hil _))
  have HLe2:=hi_ hle2;have HHx:=hi_ hx;have sc:=cr_ HS.o.blk;obtain⟨s0,s1,s2,s3⟩:=sc;dsimp only at s0 s3;rw[HRv.o]at s0;have b0:=(ae_ (HBs.o.frame HF.o HN.o.1)).1 0;have b1:=(HBs.o.frame HF.o HN.o.1).lt;clear hlm hv hat hpt hpt2 hx e hle2 hli s1 s2;go_upto_region 3 with fail
  go_wp2_with fail
  refine Q1.o.mono ?_;rintro e w1 ⟨rfl,hM1⟩;obtain⟨hf1,hs1⟩:=HM1.o w1 hM1;have HF1:=hi_ (HF.o.trans hf1 (fun b hb=>Or.inl hb));have HS1:Hd (an_ w1 { S with rs:=((dL_ m r P i).modify i (et_ m r)).map (mkR T pos) }):=hi_ (by
   have h1:=hs1
   (try dsimp only at h1)
   rw[HHm.o]at h1;exact h1)
  clear hM1 hf1 hs1 Q1 HM1 s0 s3 b0 b1;have hli1:i<(((dL_ m r P i).modify i (et_ m r)).map (mkR T pos)).length:=by rw[List.length_map,HLe2.o];exact hil
  have hv1:S.rv=.slice (some ⟨g,0,none⟩) (((dL_ m r P i).modify i (et_ m r)).map (mkR T pos)).length cap:=by rw[List.length_map,HLe2.o];exact HRv.o
  have hpt:=(lM_ (S:={ S with rs:=((dL_ m r P i).modify i (et_ m r)).map (mkR T pos) }) HS1.o hv1 hli1).2;have hpt2:iO_ w1 g (i*5+3) (hd T pos P[i].2.2.1) (P[i].2.2.2:Nat):=by have h1:=hpt;dsimp only at h1;rw[HAt2.o]at h1;exact h1
  have Q2:=hi_ (QU.o P[i].2.2 g (i*5+3) w1 HF1.o HHx.o.hb HHx.o.kb hpt2);have HM2:=hi_ (fun(W:World) (hM:eA_ w1 W g (i*5+3) (hd T pos P[i].2.2.1) (P[i].2.2.2:Nat) (hd T pos (bi_ m r P[i].2.2).1) ((bi_ m r P[i].2.2).2:Nat))=>l8_ (S:={ S with rs:=((dL_ m r P i).modify i (et_ m r)).map (mkR T pos) }) HS1.o hv1 hli1 (by show(((dL_ m r P i).modify i (et_ m r)).map (mkR T pos))[i].en=_;rw[HAt2.o];rfl) (by show(((dL_ m r P i).modify i (et_ m r)).map (mkR T pos))[i].ei=_;rw[HAt2.o];rfl) hM);have sc:=cr_ HS1.o.blk;obtain⟨s0,s1,s2,s3⟩:=sc;dsimp only at s0 s3;rw[HRv.o]at s0;have b0:=(ae_ (HBs.o.frame HF1.o HN.o.1)).1 0;have b1:=(HBs.o.frame HF1.o HN.o.1).lt;have hgl:=(lM_ (S:={ S with rs:=((dL_ m r P i).modify i (et_ m r)).map (mkR T pos) }) HS1.o hv1 hli1).2.lt;clear hv1 hpt hpt2 hli1 s1 s2
  go_upto_region 4 with fail
  go_wp2_with fail
  refine Q2.o.mono ?_;rintro e w2 ⟨rfl,hM2⟩;obtain⟨hf2,hs2⟩:=HM2.o w2 hM2;have HF2:=hi_ (HF1.o.trans hf2 (fun b hb=>Or.inl hb));have HS2:Hd (an_ w2 { S with rs:=(dL_ m r P (i+1)).map (mkR T pos) }):=hi_ (by
   have h1:=hs2
   (try dsimp only at h1)
   rw[HFm.o]at h1;exact h1)
  clear hM2 hf2 hs2 Q2 HM2 s0 s3 b0 b1;go_wp2_with fail
  refine⟨⟨i+1,by push_cast;rfl,by omega,HF2,HS2⟩,?_⟩;show P.length-((i:Int)+1).toNat<P.length-((i:Int)).toNat;omega
 obtain rfl:i=P.length:=by omega
 go_wp2_with fail
 exact bodyPost_end (v:=.tuple #[]) (by simp[results,Tryz.results75,go_sem]) rfl ⟨rfl,HF.o,HS.o⟩
end A
end
section
open Go.RowKit Go.Shelf
attribute [local go_sem] Oper.semAt_some
namespace A
open H G R
structure gK_(W:World)(tb b3 b4 b5 g o:Nat)(c:Array Value):Prop where
 c3:Blk b3 #[.pointer (some ⟨tb,0,none⟩)] 37 W
 c4:Blk b4 #[.pointer (some ⟨g,o,none⟩)] 164 W
 c5:Blk b5 c 73 W
theorem gK_.below{W W':World}{tb b3 b4 b5 g o:Nat}{c:Array Value}(h:gK_ W tb b3 b4 b5 g o c)(b:Below W.heap.size W W'):gK_ W' tb b3 b4 b5 g o c:=⟨h.c3.below b,h.c4.below b,h.c5.below b⟩
theorem gK_.frame{S:bh_}{W W':World}{tb b3 b4 b5 g o:Nat}{c:Array Value}(h:gK_ W tb b3 b4 b5 g o c)(hs:an_ W S)(f:H.Frame S.foot W W'):gK_ W' tb b3 b4 b5 g o c:=
 ⟨h.c3.frame f (cl_ hs h.c3 (by decide)),h.c4.frame f (cl_ hs h.c4 (by decide)),h.c5.frame f (cl_ hs h.c5 (by decide))⟩
theorem lvYield(mm:Nat)(W0:World)(T:am_)(m:aa_)(pos:Nat->Nat)(S:bh_)(i cap g:Nat)(r:Rec)(hn pv:Nat)(fn:FuncId)(b3 b4 b5 l D:Nat)(x0 x1 x2 x6 x7 x8 x9 x10 x11 x12 x13 x14 x15 x16 x17 x18 x19 x20 x21 x22 x23 x24 x25 x26 x27 x28 x29 x30 x31 x32 x33 x34 x35 x36 x37 x38 x39 x40 x41 x42 x43 x44 x45 x46 x47 x48 x49 x50 x51 x52 x53 x54 x55 x56:Value)
  (hT:ag_ W0 T m pos) (hS:an_ W0 S) (hv:S.iv=.slice (some ⟨g,0,none⟩) S.its.length cap) (hi:i<S.its.length) (hr1:r.node=some hn) (hhn:has m hn=true) (hM:gK_ W0 T.tb b3 b4 b5 g (i*4) (av_ T pos r).toArray) (h0l:W0.heap.size<=l) (h0D:W0.heap.size<=D) (hDl:D≠l)
  (y:Nat) (hy:has m y=true) (hpy:contains m pv y=true) (k:Nat) (W:World)
  (hA:pe_ W0 fn #[x0,x1,x2,.pointer (some ⟨b3,0,none⟩),.pointer (some ⟨b4,0,none⟩),.pointer (some ⟨b5,0,none⟩),x6,x7,x8,x9,x10,x11,x12,x13,x14,x15,x16,x17,x18,x19,x20,x21,x22,x23,x24,x25,x26,x27,x28,x29,x30,x31,x32,x33,x34,x35,x36,x37,x38,x39,x40,x41,x42,x43,x44,x45,x46,x47,x48,x49,x50,x51,x52,x53,x54,x55,x56] l D S i (fun z=>∃u,z=hd T pos u/\pd_ m r.target pv hn u) k W) :
  YieldAt Fence.wide mm Tryz.prog l #[.int .i64 (hd T pos y)] W fun e W'=>e=.returned (.bool true)/\pe_ W0 fn #[x0,x1,x2,.pointer (some ⟨b3,0,none⟩),.pointer (some ⟨b4,0,none⟩),.pointer (some ⟨b5,0,none⟩),x6,x7,x8,x9,x10,x11,x12,x13,x14,x15,x16,x17,x18,x19,x20,x21,x22,x23,x24,x25,x26,x27,x28,x29,x30,x31,x32,x33,x34,x35,x36,x37,x38,x39,x40,x41,x42,x43,x44,x45,x46,x47,x48,x49,x50,x51,x52,x53,x54,x55,x56] l D S i (fun z=>∃u,z=hd T pos u/\pd_ m r.target pv hn u) (k+1) W'/\c6_ (n8_ g l) W W':=by
 refine⟨fn,#[x0,x1,x2,.pointer (some ⟨b3,0,none⟩),.pointer (some ⟨b4,0,none⟩),.pointer (some ⟨b5,0,none⟩),x6,x7,x8,x9,x10,x11,x12,x13,x14,x15,x16,x17,x18,x19,x20,x21,x22,x23,x24,x25,x26,x27,x28,x29,x30,x31,x32,x33,x34,x35,x36,x37,x38,x39,x40,x41,x42,x43,x44,x45,.int .i64 (hd T pos y),x47,x48,x49,x50,x51,x52,x53,x54,x55,x56],f4_.1,f4_.2,by simpa[gB_]using run_yield (P:=Tryz.prog) (args:=#[.int .i64 (hd T pos y)]) hA.L rfl,roundIn_of_wpIn trivial ?_⟩;have hl:l<W.heap.size:=lt_of_block hA.L;have hbr:=run_beginRound (P:=Tryz.prog) hA.L rfl
 obtain⟨W2,hW2⟩:∃W2,W.putObj l (.loop { gB_ fn #[x0,x1,x2,.pointer (some ⟨b3,0,none⟩),.pointer (some ⟨b4,0,none⟩),.pointer (some ⟨b5,0,none⟩),x6,x7,x8,x9,x10,x11,x12,x13,x14,x15,x16,x17,x18,x19,x20,x21,x22,x23,x24,x25,x26,x27,x28,x29,x30,x31,x32,x33,x34,x35,x36,x37,x38,x39,x40,x41,x42,x43,x44,x45,x46,x47,x48,x49,x50,x51,x52,x53,x54,x55,x56] D .ready none with state:=.busy })=W2:=⟨_,rfl⟩;rw[hW2]at hbr;have hg2:W.grownBy W2 (some l):=by rw[<-hW2];exact grownBy_putObj_a _ _ _
 have hL2:W2.heap[l]?=some (.loop { gB_ fn #[x0,x1,x2,.pointer (some ⟨b3,0,none⟩),.pointer (some ⟨b4,0,none⟩),.pointer (some ⟨b5,0,none⟩),x6,x7,x8,x9,x10,x11,x12,x13,x14,x15,x16,x17,x18,x19,x20,x21,x22,x23,x24,x25,x26,x27,x28,x29,x30,x31,x32,x33,x34,x35,x36,x37,x38,x39,x40,x41,x42,x43,x44,x45,x46,x47,x48,x49,x50,x51,x52,x53,x54,x55,x56] D .ready none with state:=.busy }):=by rw[<-hW2];exact World.putObj_heap_same hl
 have hF2:H.Frame (fun k=>k=l) W W2:=H.Frame.grown (S:=fun k=>k=l) (H.Frame.refl _ W) hg2 (fun k e=>by cases e;exact Or.inl rfl);have hK2:W2.heap[D]?=some (.deferred (some [])):=(hF2.block D (lt_of_block hA.K) hDl).trans hA.K;obtain⟨z,hz,hs⟩:=hA.set;have hnl:¬({ S with its:=S.its.modify i (a5_ z) }:bh_).foot l:=eK_ hs hA.L (fun _ _ _ e=>by cases e);have hnD:¬({ S with its:=S.its.modify i (a5_ z) }:bh_).foot D:=eK_ hs hA.K (fun _ _ _ e=>by cases e);have hs2:an_ W2 { S with its:=S.its.modify i (a5_ z) }:=hs.frame hF2 (fun k hk e=>hnl (by rw[<-e];exact hk));have hF02:H.Frame S.foot W0 W2:=hA.fr.trans hF2 (fun b e=>Or.inr (by rw[e];exact h0l));have hT2:ag_ W2 T m pos:=hT.frame hS hF02;have hM2:=hM.frame hS hF02
 have hgl:g<W2.heap.size:=hs2.foot_lt (k:=g) (gi_ (S:=S) hv:S.foot g);have hfg:=gi_ hv;have HC:=hi_ (fun W' (h:Below W2.heap.size W2 W')=>cp_ T m pos hn y W' (hT2.below h) hhn hy);have HL2:=hi_ hL2;have HK2:=hi_ hK2;have HF2:=hi_ hF2;have HS2:=hi_ hs2;have HF02:=hi_ hF02;have HM2:=hi_ hM2;have HZ:=hi_ hz
 have HFin:=hi_ (fun(W9:World) (tmps:Array Value) (h9L:W9.heap[l]?=some (.loop { gB_ fn #[x0,x1,x2,.pointer (some ⟨b3,0,none⟩),.pointer (some ⟨b4,0,none⟩),.pointer (some ⟨b5,0,none⟩),x6,x7,x8,x9,x10,x11,x12,x13,x14,x15,x16,x17,x18,x19,x20,x21,x22,x23,x24,x25,x26,x27,x28,x29,x30,x31,x32,x33,x34,x35,x36,x37,x38,x39,x40,x41,x42,x43,x44,x45,x46,x47,x48,x49,x50,x51,x52,x53,x54,x55,x56] D .ready none with state:=.busy })) (h9K:W9.heap[D]?=some (.deferred (some []))) (z':Int) (hz':∃u,z'=hd T pos u/\pd_ m r.target pv hn u) (h9s:an_ W9 { S with its:=S.its.modify i (a5_ z') }) (h9f:H.Frame S.foot W0 W9) (hr:H.Frame (fun k=>k=l\/k=g) W W9)=>lv_end (W:=W) (k:=k) (tmps:=tmps) (Z:=fun z=>∃u,z=hd T pos u/\pd_ m r.target pv hn u) h9L h9K hDl h0l h9f hz' h9s hr)
 obtain⟨⟨t3,_⟩,t3l⟩:=And.intro (ae_ hM2.c3) hM2.c3.lt;have q3:=t3 0;have q4:=(ae_ hM2.c4).1 0;have l4:=hM2.c4.lt;have l5:=hM2.c5.lt;have q5:W2.cell? ⟨b5,2,none⟩=some (.int .i64 (hd T pos hn)):=(b1_ hM2.c5 2).trans (by show some (Value.int .i64 (hdO T pos r.node))=_;rw[hr1];rfl);clear hW2 hg2 hF2 hL2 hK2 hF02 hM2 hT2 hs2 t3 hA hM hs;unfold f4_ Tryz.f78;dsimp only
 gi_wp2_with gi_round_op_a
 gi_wp2_with fail
 refine⟨trivial,fun h=>(by cases h),?_⟩;refine(CallsIn.inRound l (callsIn_wide.2 (HC.o _ (br_)))).mono ?_;rintro e w3 ⟨rfl,hb3⟩;have HB3:=hi_ hb3;have HM3:=hi_ (HM2.o.below hb3);have HS3:=hi_ (HS2.o.below hb3);have HF3:=hi_ (HF2.o.below_ hb3);have HF03:=hi_ (HF02.o.below_ hb3);have HL3:=hi_ ((hb3.block l (lt_of_block HL2.o)).trans HL2.o);have HK3:=hi_ ((hb3.block D (lt_of_block HK2.o)).trans HK2.o);clear hb3 q3 q4 q5 t3l l4 l5 HC
 cases hc:contains m hn y with
 |true=>
  gi_wp2_with fail
  exact HFin.o _ _ HL3.o HK3.o z HZ.o HS3.o HF03.o (HF3.o.wide (fun k e=>Or.inl e))
 |false=>
  have q4:=(ae_ HM3.o.c4).1 0;have l4:=HM3.o.c4.lt;have hi2:i<(S.its.modify i (a5_ z)).length:=by rw[List.length_modify];exact hi
  have hv2:S.iv=.slice (some ⟨g,0,none⟩) (S.its.modify i (a5_ z)).length cap:=by rw[List.length_modify];exact hv
  have hit:=gT_ HS3.o hv2 hi2;have q6:=hit.1.2.1;have f6:=hit.2.1;have g6:=hit.2.2.2;have hp:=i2_ HS3.o hv2 hi2 (hd T pos y);dsimp only at hp;rw[h6_]at hp;have HP:=hi_ hp;have HFx:=hi_ (Frame.set (S:=S.foot) HF03.o (g:=g) (Or.inl hfg) (i*4+2) (.int .i64 (hd T pos y)));have HFy:=hi_ (Frame.set (S:=fun k=>k=l\/k=g) (HF3.o.wide (fun k e=>Or.inl e)) (g:=g) (Or.inl (Or.inr rfl)) (i*4+2) (.int .i64 (hd T pos y)));have hlg:l≠g:=fun e=>hnl (by rw[e];exact hfg);have hDg:D≠g:=fun e=>hnD (by rw[e];exact hfg);have HL4:=hi_ ((j5_ w3 hlg (i*4+2) (.int .i64 (hd T pos y))).trans HL3.o);have HK4:=hi_ ((j5_ w3 hDg (i*4+2) (.int .i64 (hd T pos y))).trans HK3.o);have HZ2:Hd (∃u,hd T pos y=hd T pos u/\pd_ m r.target pv hn u):=hi_ ⟨y,rfl,hy,Or.inr ⟨hpy,hc⟩⟩;clear hit hp
  generalize (S.its.modify i (a5_ z))[i].ref=zz at q6
  gi_wp2_with fail
  exact HFin.o _ _ HL4.o HK4.o (hd T pos y) HZ2.o HP.o HFx.o HFy.o
end A
end
section
open Go.RowKit Go.Shelf
attribute [local go_sem] Oper.semAt_some
namespace A
open H G R
theorem mm_{l:List Nat}{k:Nat}(hk:k<l.length):l.getD k 0∈l:=by
 have e:l.getD k 0=l[k]:=by simp[List.getD,List.getElem?_eq_getElem hk]
 rw[e];exact List.getElem_mem hk
theorem kI_{l:List It}{i:Nat}(hi:i<l.length){z:Int}(h:l[i].ref=z):l.modify i (a5_ z)=l:=by
 refine List.ext_getElem (by rw[List.length_modify]) fun j h1 h2=>?_;rw[List.getElem_modify]
 split
 ·rename_i e
  subst e;subst h;rfl
 rfl
theorem n6_(n:Nat)(Q:Exit->Act->World->Prop)(w:World)(T:am_)(m:aa_)(pos:Nat->Nat)(S:bh_)(i cap g:Nat)(r:Rec)(hn pv b3 b4 b5 b1 b2:Nat)(x0 x1 x2 x6 x7 x8 x9 x10 x11 x12 x13 x14 x15 x16 x17 x18 x19 x20 x21 x22 x23 x24 x25 x26 x27 x28 x29 x30 x31 x32 x33 x34 x35 x36 x37 x38 x39 x40 x41 x42 x43 x44 x45 x46 x47 x48 x49 x50 x51 x52 x53 x54 x55 x56:Value)
  (hx:x45=.func (.func 98) #[] #[.pointer (some ⟨b1,0,none⟩),.pointer (some ⟨b2,0,none⟩)])
  (hT:ag_ w T m pos) (hS:an_ w S) (hv:S.iv=.slice (some ⟨g,0,none⟩) S.its.length cap) (hi:i<S.its.length) (hr1:r.node=some hn) (hhn:has m hn=true) (hM:gK_ w T.tb b3 b4 b5 g (i*4) (av_ T pos r).toArray) (hpv:has m pv=true) (htg:has m r.target=true) (hrf:S.its[i].ref=hd T pos r.target)
  (hb1:b1<w.heap.size) (hb2:b2<w.heap.size) (c1:w.cell? ⟨b1,0,none⟩=some (.pointer (some ⟨T.tb,0,none⟩))) (c2:w.cell? ⟨b2,0,none⟩=some (.int .i64 (hd T pos pv)))
  (hQ:∀W u,pd_ m r.target pv hn u->an_ W { S with its:=S.its.modify i (a5_ (hd T pos u)) }->H.Frame S.foot w W->W.heap[w.heap.size]?=some (.deferred (some [])) →
   Q .normal { tmps:=#[x0,x1,x2,.pointer (some ⟨b3,0,none⟩),.pointer (some ⟨b4,0,none⟩),.pointer (some ⟨b5,0,none⟩),x6,x7,x8,x9,x10,x11,x12,x13,x14,x15,x16,x17,x18,x19,x20,x21,x22,x23,x24,x25,x26,x27,x28,x29,x30,x31,x32,x33,x34,x35,x36,x37,x38,x39,x40,x41,x42,x43,x44,x45,x46,x47,x48,x49,x50,x51,x52,x53,x54,x55,x56],defers:=[{ target:=.collected w.heap.size,args:=#[] }] } W) :
  (Code.rangeFunc (Operand.tmp 45) #[46] f4_.1 f4_.2).wpIn Fence.wide n Tryz.prog Q { tmps:=#[x0,x1,x2,.pointer (some ⟨b3,0,none⟩),.pointer (some ⟨b4,0,none⟩),.pointer (some ⟨b5,0,none⟩),x6,x7,x8,x9,x10,x11,x12,x13,x14,x15,x16,x17,x18,x19,x20,x21,x22,x23,x24,x25,x26,x27,x28,x29,x30,x31,x32,x33,x34,x35,x36,x37,x38,x39,x40,x41,x42,x43,x44,x45,x46,x47,x48,x49,x50,x51,x52,x53,x54,x55,x56],defers:=[] } w:=by
 have hW:=hT.fits.wf;refine wpIn_rangeFunc ?_;intro fn hfn;obtain⟨W1,hW1⟩:∃W1,(w.alloc (.deferred (some []))).alloc (.loop (gB_ fn #[x0,x1,x2,.pointer (some ⟨b3,0,none⟩),.pointer (some ⟨b4,0,none⟩),.pointer (some ⟨b5,0,none⟩),x6,x7,x8,x9,x10,x11,x12,x13,x14,x15,x16,x17,x18,x19,x20,x21,x22,x23,x24,x25,x26,x27,x28,x29,x30,x31,x32,x33,x34,x35,x36,x37,x38,x39,x40,x41,x42,x43,x44,x45,x46,x47,x48,x49,x50,x51,x52,x53,x54,x55,x56] w.heap.size .ready none))=W1:=⟨_,rfl⟩;have hb1':Below w.heap.size w W1:=by rw[<-hW1];exact((Below.refl w.heap.size w).alloc (nl_) _).alloc (by simp) _
 have hs1:W1.heap.size=w.heap.size+2:=by rw[<-hW1];simp
 have hM1:pe_ w fn #[x0,x1,x2,.pointer (some ⟨b3,0,none⟩),.pointer (some ⟨b4,0,none⟩),.pointer (some ⟨b5,0,none⟩),x6,x7,x8,x9,x10,x11,x12,x13,x14,x15,x16,x17,x18,x19,x20,x21,x22,x23,x24,x25,x26,x27,x28,x29,x30,x31,x32,x33,x34,x35,x36,x37,x38,x39,x40,x41,x42,x43,x44,x45,x46,x47,x48,x49,x50,x51,x52,x53,x54,x55,x56] (w.heap.size+1) w.heap.size S i (fun z=>∃u,z=hd T pos u/\pd_ m r.target pv hn u) 0 W1:=
  ⟨⟨hd T pos r.target,⟨r.target,rfl,htg,Or.inl rfl⟩,by rw[kI_ hi hrf];exact hS.below hb1'⟩,
   by rw[<-hW1];have:=World.alloc_heap_new (w.alloc (.deferred (some []))) (.loop (gB_ fn #[x0,x1,x2,.pointer (some ⟨b3,0,none⟩),.pointer (some ⟨b4,0,none⟩),.pointer (some ⟨b5,0,none⟩),x6,x7,x8,x9,x10,x11,x12,x13,x14,x15,x16,x17,x18,x19,x20,x21,x22,x23,x24,x25,x26,x27,x28,x29,x30,x31,x32,x33,x34,x35,x36,x37,x38,x39,x40,x41,x42,x43,x44,x45,x46,x47,x48,x49,x50,x51,x52,x53,x54,x55,x56] w.heap.size .ready none));rwa [World.size_alloc]at this,
   by rw[<-hW1];exact(Below.heap_alloc _ _ _ (by simp)).trans (World.alloc_heap_new w _),Frame.of hb1'⟩
 refine⟨w.heap.size+1,[{ target:=.collected w.heap.size,args:=#[] }],W1,{ target:=.fn (.func 98) #[.pointer (some ⟨b1,0,none⟩),.pointer (some ⟨b2,0,none⟩)],args:=#[.func (.yield (w.heap.size+1)) #[] #[]] },W1,98,
  #[.func (.yield (w.heap.size+1)) #[] #[]] ++ #[.pointer (some ⟨b1,0,none⟩),.pointer (some ⟨b2,0,none⟩)],W1,?_,?_,?_,?_,fun h=>(by cases h),?_⟩
 ·rw[<-hW1];exact run_enterLoop_outer _ _ _ _ _
 ·simp[resolve,go_sem,hx]
 ·intro f' hf';trivial
 ·simp[invoke,go_sem,enters_of Tryz.func98 (by kernel_rfl) rfl]
 have K:=n7_ (fn:=fn) (ts:=#[x0,x1,x2,.pointer (some ⟨b3,0,none⟩),.pointer (some ⟨b4,0,none⟩),.pointer (some ⟨b5,0,none⟩),x6,x7,x8,x9,x10,x11,x12,x13,x14,x15,x16,x17,x18,x19,x20,x21,x22,x23,x24,x25,x26,x27,x28,x29,x30,x31,x32,x33,x34,x35,x36,x37,x38,x39,x40,x41,x42,x43,x44,x45,x46,x47,x48,x49,x50,x51,x52,x53,x54,x55,x56]) (l:=w.heap.size+1) (D:=w.heap.size) (i:=i) (Z:=fun z=>∃u,z=hd T pos u/\pd_ m r.target pv hn u) hT hS (gi_ hv);refine(hO_ T m pos w hT pv hpv (w.heap.size+1) (n8_ g (w.heap.size+1)) _ K
  (fun n' k W hJ hk=>lvYield n' w T m pos S i cap g r hn pv fn b3 b4 b5 (w.heap.size+1) w.heap.size x0 x1 x2 x6 x7 x8 x9 x10 x11 x12 x13 x14 x15 x16 x17 x18 x19 x20 x21 x22 x23 x24 x25 x26 x27 x28 x29 x30 x31 x32 x33 x34 x35 x36 x37 x38 x39 x40 x41 x42 x43 x44 x45 x46 x47 x48 x49 x50 x51 x52 x53 x54 x55 x56 hT hS hv hi hr1 hhn hM (by omega) (by omega) (by omega) _ (WF.walk_has hW _ hpv _ (mm_ hk)) ((hW.mem_walk pv (aR_ (WF.walk_has hW _ hpv _ (mm_ hk)))).1 (mm_ hk)) k W hJ) _ b1 b2 W1 hM1 (by omega) (by omega) ((hb1'.cell (p:=⟨b1,0,none⟩) hb1).trans c1) ((hb1'.cell (p:=⟨b2,0,none⟩) hb2).trans c2)).mono ?_
 rintro e W2 ⟨⟨v0,rfl⟩,h2⟩;have hend:=run_endLoop (P:=Tryz.prog) h2.L (by simp[gB_]);obtain⟨W3,hW3⟩:∃W3,W2.putObj (w.heap.size+1) (.loop { gB_ fn #[x0,x1,x2,.pointer (some ⟨b3,0,none⟩),.pointer (some ⟨b4,0,none⟩),.pointer (some ⟨b5,0,none⟩),x6,x7,x8,x9,x10,x11,x12,x13,x14,x15,x16,x17,x18,x19,x20,x21,x22,x23,x24,x25,x26,x27,x28,x29,x30,x31,x32,x33,x34,x35,x36,x37,x38,x39,x40,x41,x42,x43,x44,x45,x46,x47,x48,x49,x50,x51,x52,x53,x54,x55,x56] w.heap.size .ready none with state:=.exhausted })=W3:=⟨_,rfl⟩;rw[hW3]at hend;have hg3:W2.grownBy W3 (some (w.heap.size+1)):=by rw[<-hW3];exact grownBy_putObj_a _ _ _
 have hF3:H.Frame (fun k=>k=w.heap.size+1) W2 W3:=H.Frame.grown (S:=fun k=>k=w.heap.size+1) (H.Frame.refl _ W2) hg3 (fun k e=>by cases e;exact Or.inl rfl);obtain⟨z,⟨u,rfl,hu⟩,hs2⟩:=h2.set;have hnl:=eK_ hs2 h2.L (fun _ _ _ e=>by cases e);refine⟨none,W3,hend,?_⟩;exact hQ W3 u hu (hs2.frame hF3 (fun k hk e=>hnl (by rw[<-e];exact hk))) (h2.fr.trans hF3 (fun b e=>Or.inr (by rw[e];omega))) ((hF3.block _ (lt_of_block h2.K) (by omega)).trans h2.K)
end A
end
section
open Go.RowKit Go.Shelf Go.Sort
namespace A
open H G R
theorem ob_(T:am_)(m:aa_)(pos:Nat->Nat)(S:bh_)(i cap g:Nat)(r:Rec)(root x:Nat)(w:World)(hT:ag_ w T m pos)(hS:an_ w S)(hiv:S.iv=.slice (some ⟨g,0,none⟩) S.its.length cap)(hi:i<S.its.length)
  (hrt:S.its[i].root=hd T pos root) (hrf:S.its[i].ref=hd T pos x) (hr:has m root=true) (hx:has m x=true) (hc:r.kind≠2\/r.kind=2/\∃h,r.node=some h/\has m h=true/\(contains m h x=false\/contains m h x=true/\contains m h root=true)) :
  Calls Tryz.prog 78 #[.pointer (some ⟨T.tb,0,none⟩),.pointer (some ⟨g,i*4,none⟩),lY_ T pos r] w fun e w'=>e=.returned (.tuple #[])/\Below w.heap.size w w':=by
 have hb3:=((Below.refl w.heap.size w).alloc (nl_) (.cells #[.pointer (some ⟨T.tb,0,none⟩)] 37)).alloc (by simp) (.cells #[.pointer (some ⟨g,i*4,none⟩)] 164);have hb3:=hb3.alloc hb3.size (.cells (av_ T pos r).toArray 73);obtain⟨w1,hw1⟩:∃w1,w1=((w.alloc (.cells #[.pointer (some ⟨T.tb,0,none⟩)] 37)).alloc (.cells #[.pointer (some ⟨g,i*4,none⟩)] 164)).alloc (.cells (av_ T pos r).toArray 73):=⟨_,rfl⟩;have hM1:gK_ w1 T.tb w.heap.size (w.heap.size+1) (w.heap.size+1+1) g (i*4) (av_ T pos r).toArray:=by
  rw[hw1];have h1:=Blk.new w #[.pointer (some ⟨T.tb,0,none⟩)] 37;have h2:=Blk.new (w.alloc (.cells #[.pointer (some ⟨T.tb,0,none⟩)] 37)) #[.pointer (some ⟨g,i*4,none⟩)] 164;have h3:=Blk.new ((w.alloc (.cells #[.pointer (some ⟨T.tb,0,none⟩)] 37)).alloc (.cells #[.pointer (some ⟨g,i*4,none⟩)] 164)) (av_ T pos r).toArray 73;simp only[World.size_alloc]at h2 h3;exact⟨(h1.alloc _).alloc _,h2.alloc _,h3⟩
 rw[<-hw1]at hb3;have HB1:=hi_ hb3;have HM1:=hi_ hM1;have HS1:=hi_ (hS.below hb3);have HT1:=hi_ (hT.below hb3);have HW1:=hi_ hw1;clear hb3 hM1 hw1;have QC:=hi_ (fun(h y:Nat) (hh:has m h=true) (hy:has m y=true) W (hW:Below w1.heap.size w1 W)=>cp_ T m pos h y W (HT1.o.below hW) hh hy);have q3:=(ae_ HM1.o.c3).1 0;have l3:=HM1.o.c3.lt;have q4:=(ae_ HM1.o.c4).1 0;have l4:=HM1.o.c4.lt;have p0:=b1_ HM1.o.c5 0;have p1:=b1_ HM1.o.c5 1;have p2:=b1_ HM1.o.c5 2;have p3:=b1_ HM1.o.c5 3;have l5:=HM1.o.c5.lt;simp only[av_,List.getElem?_cons_zero,List.getElem?_cons_succ]at p0 p1 p2 p3;obtain⟨⟨i1,i2,i3⟩,_,_,gl⟩:=gT_ HS1.o hiv hi;rw[hrt]at i1;rw[hrf]at i2;have D3:=lc_ q3 l3;have D4:=lc_ q4 l4;have E0:=lc_ p0 l5;have E2:=lc_ p2 l5;have I1:=lc_ i1 gl;have I2:=lc_ i2 gl
 unfold lY_ av_;unfold av_ at HW1;clear hT hS hrt hrf
 rcases hc with k2|⟨k2,h,e1,hh,hc⟩
 ·have k1:(((r.kind:Nat):Int) != 2)=true:=bne_iff_ne.2 (by omega)
  have k0:¬((r.kind:Nat):Int)=2:=by omega
  generalize ((r.kind:Nat):Int)=kd at *;generalize hd T pos r.target=tz at *;generalize hdO T pos r.node=nz at *;generalize hdO T pos r.prev=pz at *;generalize hdO T pos r.next=xz at *;generalize ((r.index:Nat):Int)=ix at *;generalize ((r.count:Nat):Int)=ct at *;generalize ((r.size:Nat):Int)=sz at *;generalize (⟨r.name.toArray⟩:ByteArray)=nm at *;generalize (⟨r.old.toArray⟩:ByteArray)=od at *;generalize r.had=hb at *
  go_enter Tryz.func78,Tryz.ntmps78
  go_upto_region 1 with fail
  rw[<-HW1.o];clear HW1 QC;refine af_ (by kernel_rfl) (by kernel_rfl) ?_;repeat (go_big_quiet_step (fail))
  refine wq_ (fun dq=>?_);have HB2:=bt_ HB1 dq.h;generalize dq.w=w2 at *;go_wp2_with fail
  exact bodyPost_ret (v:=.tuple #[]) (by simp[results,Tryz.results78,go_sem]) rfl ⟨rfl,HB2.o⟩
 rw[e1]at E2 HW1 ⊢;rw[show hdO T pos (some h)=hd T pos h from rfl]at E2 HW1 ⊢;have Q1:=hi_ (QC.o h x hh hx);have Q2:=hi_ (QC.o h root hh hr);have k1:(((r.kind:Nat):Int) != 2)=false:=by rw[k2];rfl
 have k0:((r.kind:Nat):Int)=2:=by omega
 clear k2;rw[k0]at E0 HW1 ⊢;clear k0 k1
 rcases hc with hc|⟨hc,hc2⟩
 ·rw[hc]at Q1
  generalize hd T pos x=zx at *;generalize hd T pos h=nz at *;generalize hd T pos r.target=tz at *;generalize hdO T pos r.prev=pz at *;generalize hdO T pos r.next=xz at *;generalize ((r.index:Nat):Int)=ix at *;generalize ((r.count:Nat):Int)=ct at *;generalize ((r.size:Nat):Int)=sz at *;generalize (⟨r.name.toArray⟩:ByteArray)=nm at *;generalize (⟨r.old.toArray⟩:ByteArray)=od at *;generalize r.had=hb at *
  go_enter Tryz.func78,Tryz.ntmps78
  go_upto_region 1 with fail
  rw[<-HW1.o];clear HW1 QC Q2;refine af_ (by kernel_rfl) (by kernel_rfl) ?_;repeat (go_big_quiet_step ((go_at_call 40;exact Calls.later (Q1.o _ (Later.h _)))))
  refine wq_ (fun dq=>?_);have HB2:=bt_ HB1 dq.h;generalize dq.w=w2 at *;go_wp2_with fail
  exact bodyPost_ret (v:=.tuple #[]) (by simp[results,Tryz.results78,go_sem]) rfl ⟨rfl,HB2.o⟩
 rw[hc]at Q1;rw[hc2]at Q2;generalize hd T pos x=zx at *;generalize hd T pos root=zr at *;generalize hd T pos h=nz at *;generalize hd T pos r.target=tz at *;generalize hdO T pos r.prev=pz at *;generalize hdO T pos r.next=xz at *;generalize ((r.index:Nat):Int)=ix at *;generalize ((r.count:Nat):Int)=ct at *;generalize ((r.size:Nat):Int)=sz at *;generalize (⟨r.name.toArray⟩:ByteArray)=nm at *;generalize (⟨r.old.toArray⟩:ByteArray)=od at *;generalize r.had=hb at *
 go_enter Tryz.func78,Tryz.ntmps78
 go_upto_region 1 with fail
 rw[<-HW1.o];clear HW1 QC;refine af_ (by kernel_rfl) (by kernel_rfl) ?_;repeat (go_big_quiet_step (first|(go_at_call_of 40 (Value.int .i64 zx);exact Calls.later (Q1.o _ (Later.h _)))|(go_at_call_of 40 (Value.int .i64 zr);exact Calls.later (Q2.o _ (Later.h _)))))
 refine wq_ (fun dq=>?_);have HB2:=bt_ HB1 dq.h;generalize dq.w=w2 at *;go_wp2_with fail
 exact bodyPost_ret (v:=.tuple #[]) (by simp[results,Tryz.results78,go_sem]) rfl ⟨rfl,HB2.o⟩
theorem oc_(T:am_)(m:aa_)(pos:Nat->Nat)(S:bh_)(i cap g:Nat)(r:Rec)(root x h:Nat)(w:World)(hT:ag_ w T m pos)(hS:an_ w S)(hiv:S.iv=.slice (some ⟨g,0,none⟩) S.its.length cap)(hi:i<S.its.length)
  (hrt:S.its[i].root=hd T pos root) (hrf:S.its[i].ref=hd T pos x) (hr:has m root=true) (hx:has m x=true) (hk:r.kind=2) (hn:r.node=some h) (hh:has m h=true) (htg:has m r.target=true) (hpv:∀p,r.prev=some p->has m p=true) (hc:contains m h x=true) (hc2:contains m h root=false) :
  Calls Tryz.prog 78 #[.pointer (some ⟨T.tb,0,none⟩),.pointer (some ⟨g,i*4,none⟩),lY_ T pos r] w fun e w'=>e=.returned (.tuple #[])/\∃y,has m y=true/\(y=r.target\/∃p,r.prev=some p/\contains m p y=true/\contains m h y=false)/\H.Frame S.foot w w'/\an_ w' { S with its:=(S.its.modify i (a4_ false)).modify i (a5_ (hd T pos y)) }:=by
 have hb3:=((Below.refl w.heap.size w).alloc (nl_) (.cells #[.pointer (some ⟨T.tb,0,none⟩)] 37)).alloc (by simp) (.cells #[.pointer (some ⟨g,i*4,none⟩)] 164);have hb3:=hb3.alloc hb3.size (.cells (av_ T pos r).toArray 73);obtain⟨w1,hw1⟩:∃w1,w1=((w.alloc (.cells #[.pointer (some ⟨T.tb,0,none⟩)] 37)).alloc (.cells #[.pointer (some ⟨g,i*4,none⟩)] 164)).alloc (.cells (av_ T pos r).toArray 73):=⟨_,rfl⟩;have hM1:gK_ w1 T.tb w.heap.size (w.heap.size+1) (w.heap.size+1+1) g (i*4) (av_ T pos r).toArray:=by
  rw[hw1];have h1:=Blk.new w #[.pointer (some ⟨T.tb,0,none⟩)] 37;have h2:=Blk.new (w.alloc (.cells #[.pointer (some ⟨T.tb,0,none⟩)] 37)) #[.pointer (some ⟨g,i*4,none⟩)] 164;have h3:=Blk.new ((w.alloc (.cells #[.pointer (some ⟨T.tb,0,none⟩)] 37)).alloc (.cells #[.pointer (some ⟨g,i*4,none⟩)] 164)) (av_ T pos r).toArray 73;simp only[World.size_alloc]at h2 h3;exact⟨(h1.alloc _).alloc _,h2.alloc _,h3⟩
 rw[<-hw1]at hb3;have HB1:=hi_ hb3;have HM1:=hi_ hM1;have HS1:=hi_ (hS.below hb3);have HT1:=hi_ (hT.below hb3);have HW1:=hi_ hw1;clear hb3 hM1 hw1;have Q1:=hi_ (fun W (hW:Below w1.heap.size w1 W)=>cp_ T m pos h x W (HT1.o.below hW) hh hx);have Q2:=hi_ (fun W (hW:Below w1.heap.size w1 W)=>cp_ T m pos h root W (HT1.o.below hW) hh hr);rw[hc]at Q1;rw[hc2]at Q2;have q3:=(ae_ HM1.o.c3).1 0;have l3:=HM1.o.c3.lt;have q4:=(ae_ HM1.o.c4).1 0;have l4:=HM1.o.c4.lt;have p0:=b1_ HM1.o.c5 0;have p1:=b1_ HM1.o.c5 1;have p2:=b1_ HM1.o.c5 2;have p3:=b1_ HM1.o.c5 3;have l5:=HM1.o.c5.lt;simp only[av_,List.getElem?_cons_zero,List.getElem?_cons_succ]at p0 p1 p2 p3;obtain⟨⟨i1,i2,i3⟩,_,_,gl⟩:=gT_ HS1.o hiv hi;rw[hrt]at i1;rw[hrf]at i2;have hfg:=gi_ hiv;have D3:=lc_ q3 l3
 have D4:=lc_ q4 l4;have E0:=lc_ p0 l5;have E2:=lc_ p2 l5;have I1:=lc_ i1 gl;have I2:=lc_ i2 gl;have HRec:Hd (lY_ T pos r=.agg (av_ T pos r).toArray):=hi_ rfl;unfold lY_ av_;unfold av_ at HW1;have k0:((r.kind:Nat):Int)=2:=by rw[hk];rfl
 rw[hn]at E2 HW1 ⊢;rw[show hdO T pos (some h)=hd T pos h from rfl]at E2 HW1 ⊢;rw[k0]at E0 HW1 ⊢;clear hT hS hrt hrf k0 p0 p1 p2 p3;generalize hd T pos x=zx at *;generalize hd T pos root=zr at *;have HNz:Hd (hdO T pos r.node=hd T pos h):=hi_ (by rw[hn];rfl);generalize hzt:hd T pos r.target=zt at *;have HZt:=hi_ hzt;generalize hzp:hdO T pos r.prev=pz at *;have HPz:=hi_ hzp;clear hzt hzp;generalize hd T pos h=nz at *;generalize hdO T pos r.next=xz at *;generalize ((r.index:Nat):Int)=ix at *;generalize ((r.count:Nat):Int)=ct at *;generalize ((r.size:Nat):Int)=sz at *;generalize (⟨r.name.toArray⟩:ByteArray)=nm at *;generalize (⟨r.old.toArray⟩:ByteArray)=od at *;generalize r.had=hb at *;refine(callsIn_wide (n:=9)).1 ?_;refine callsIn_of_wp_marks Tryz.func78 rfl trivial ?_ rfl
 refine wpIn_wide.2 ?_;simp only[Tryz.ntmps78,List.size_toArray,List.length_cons,List.length_nil,Nat.reduceAdd,Nat.reduceSub,Array.replicate_succ,Array.replicate_zero,List.push_toArray,List.append_toArray,List.nil_append,List.cons_append];go_upto_region 1 with fail
 rw[<-HW1.o];clear HW1;refine af_ (by kernel_rfl) (by kernel_rfl) ?_;repeat (go_big_quiet_step (first|(go_at_call_of 40 (Value.int .i64 zx);exact Calls.later (Q1.o _ (Later.h _)))|(go_at_call_of 40 (Value.int .i64 zr);exact Calls.later (Q2.o _ (Later.h _)))))
 refine wq_ (fun dq=>?_);have HB2:=bt_ HB1 dq.h;have HM2:=hi_ (HM1.o.below dq.h);have HS2:=hi_ (HS1.o.below dq.h);have HT2:=hi_ (HT1.o.below dq.h);clear D3 D4 E0 E2 I1 I2 Q1 Q2 q3 q4 l3 l4 l5 i1 i2 i3 gl HB1 HM1 HS1 HT1;generalize dq.w=w2 at *;clear dq;have q4:=(ae_ HM2.o.c4).1 0;have l4:=HM2.o.c4.lt;have p1:=b1_ HM2.o.c5 1;have l5:=HM2.o.c5.lt;simp only[av_,List.getElem?_cons_zero,List.getElem?_cons_succ,HZt.o]at p1;obtain⟨⟨i1,i2,i3⟩,f2,f3,gl⟩:=gT_ HS2.o hiv hi;generalize S.its[i].root=u1 at i1;generalize S.its[i].ref=u2 at i2;generalize S.its[i].before=u3 at i3;have hp1:=i2_ HS2.o hiv hi (zt);have hi':i<(S.its.modify i (a5_ (zt))).length:=by rw[List.length_modify];exact hi
 have hiv':S.iv=.slice (some ⟨g,0,none⟩) (S.its.modify i (a5_ (zt))).length cap:=by rw[List.length_modify];exact hiv
 have HP2:=hi_ (gY_ hp1 hiv' hi' false);have hf1:=Frame.set (S:=S.foot) (Frame.of HB2.o) (g:=g) (Or.inl hfg) (i*4+2) (.int .i64 (zt));have HF2:=hi_ (Frame.set (S:=S.foot) hf1 (g:=g) (Or.inl hfg) (i*4+3) (.bool false));have hf3:=Frame.set (S:=S.foot) (H.Frame.refl S.foot w2) (g:=g) (Or.inl hfg) (i*4+2) (.int .i64 (zt));have HF3:=hi_ (Frame.set (S:=S.foot) hf3 (g:=g) (Or.inl hfg) (i*4+3) (.bool false));have HMo:Hd (∀z,((S.its.modify i (a5_ (zt))).modify i (a4_ false)).modify i (a5_ z)=(S.its.modify i (a4_ false)).modify i (a5_ z)):=hi_ (fun z=>by
  refine List.ext_getElem (by simp) fun j h1 h2=>?_;simp only[List.getElem_modify]
  split<;>rfl)
 have HRf:Hd (∀h9,((S.its.modify i (a5_ (zt))).modify i (a4_ false))[i]'h9={ S.its[i]with ref:=zt,before:=false }):=hi_ (fun h9=>by
  simp only[List.getElem_modify,if_true]
  rfl)
 clear hp1 hi' hiv' hf1 hf3;go_upto_region 2 with fail
 go_region
 have HD3:=hi_ ((Below.refl ((w2.setCell ⟨g,i*4+2,none⟩ (.int .i64 zt)).setCell ⟨g,i*4+3,none⟩ (.bool false)).heap.size ((w2.setCell ⟨g,i*4+2,none⟩ (.int .i64 zt)).setCell ⟨g,i*4+3,none⟩ (.bool false))).drew);have HS3:=hi_ (HP2.o.below HD3.o);have HFr3:=hi_ (HF2.o.below_ HD3.o);have HM3:=hi_ ((HM2.o.frame HS2.o HF3.o).below HD3.o);have HT3:=hi_ ((HT2.o.frame HS2.o HF3.o).below HD3.o);clear HD3 HP2 HF2 HF3 HM2 HS2 HT2 HB2 q4 l4 p1 l5 i1 i2 i3 f2 f3 gl;generalize World.drew _=w3 at *;have q3:=(ae_ HM3.o.c3).1 0;have l3:=HM3.o.c3.lt;have p3:=b1_ HM3.o.c5 3;have l5:=HM3.o.c5.lt;simp only[av_,List.getElem?_cons_zero,List.getElem?_cons_succ,HPz.o]at p3
 cases hpn:r.prev with
 |none=>
  obtain rfl:pz=0:=by rw[<-HPz.o,hpn];rfl
  have HOut:Hd (an_ w3 { S with its:=(S.its.modify i (a4_ false)).modify i (a5_ zt) }):=hi_ (by
   have h1:=HS3.o;have e:(S.its.modify i (a5_ zt)).modify i (a4_ false)=(S.its.modify i (a4_ false)).modify i (a5_ zt):=by
    refine List.ext_getElem (by simp) fun j h1 h2=>?_;simp only[List.getElem_modify]
    split<;>rfl
   dsimp only at h1;rw[e]at h1;exact h1)
  go_wp2_with fail
  exact⟨.tuple #[],by simp[results,Tryz.results78,go_sem],rfl,r.target,htg,rfl,HFr3.o,by rw[HZt.o,<-hiv];exact HOut.o⟩
 |some pv=>
  have hps:=hpn;have hpz:pz=hd T pos pv:=by rw[<-HPz.o,hps];rfl
  have hp0:=aP_ (T:=T) (pos:=pos) pv;rw[<-hpz]at hp0;have z1:(pz==0)=false:=bn_ (by omega);have z2:¬pz=0:=by omega
  have HPp:=hi_ hpz;clear hp0 hpz;go_wp2_with fail
  refine(oL_ T.tb pz w3).mono ?_;rintro e w5 ⟨rfl,hw5⟩;have HB5:Hd (Below w3.heap.size w3 w5):=hi_ (by rw[hw5];exact((Below.refl w3.heap.size w3).alloc (nl_) _).alloc (by simp) _);have hs5:w5.heap.size=w3.heap.size+1+1:=by rw[hw5];simp
  have c1:w5.cell? ⟨w3.heap.size,0,none⟩=some (.pointer (some ⟨T.tb,0,none⟩)):=by rw[hw5];simp[go_sem]
  have c2:w5.cell? ⟨w3.heap.size+1,0,none⟩=some (.int .i64 pz):=by rw[hw5];simp[go_sem]
  have hs5':w3.heap.size<w5.heap.size/\w3.heap.size+1<w5.heap.size:=by omega
  have hwl:w.heap.size<=w3.heap.size:=HFr3.o.size;clear hw5 q3 l3 p3 l5;have HS5:=hi_ (HS3.o.below HB5.o);have HT5:=hi_ (HT3.o.below HB5.o);have HM5:=hi_ (HM3.o.below HB5.o);have HF5:=hi_ (HFr3.o.below_ HB5.o);have hi5:i<((S.its.modify i (a5_ zt)).modify i (a4_ false)).length:=by simp only[List.length_modify];exact hi
  have hiv5:S.iv=.slice (some ⟨g,0,none⟩) ((S.its.modify i (a5_ zt)).modify i (a4_ false)).length cap:=by simp only[List.length_modify];exact hiv
  rw[HPp.o]at c2;have hrf5:((S.its.modify i (a5_ zt)).modify i (a4_ false))[i].ref=hd T pos r.target:=by rw[HRf.o];exact HZt.o.symm
  go_wp2_with fail
  refine(wpIn_wide (n:=9)).1 ?_;refine n6_ (n:=9) (w:=w5) (T:=T) (m:=m) (pos:=pos) (S:={ S with its:=(S.its.modify i (a5_ zt)).modify i (a4_ false) }) (i:=i) (cap:=cap) (g:=g) (r:=r) (hn:=h) (pv:=pv) (b3:=w.heap.size) (b4:=w.heap.size+1) (b5:=w.heap.size+1+1) (b1:=w3.heap.size) (b2:=w3.heap.size+1) (hx:=rfl) (hT:=HT5.o) (hS:=HS5.o) (hv:=hiv5) (hi:=hi5) (hr1:=hn) (hhn:=hh) (hM:=HM5.o) (hpv:=hpv pv hps) (htg:=htg) (hrf:=hrf5) (hb1:=hs5'.1) (hb2:=hs5'.2) (c1:=c1) (c2:=c2) (hQ:=?_) _ _ _ _ _ _ _ _ _ _ _ _ _ _ _ _ _ _ _ _ _ _ _ _ _ _ _ _ _ _ _ _ _ _ _ _ _ _ _ _ _ _ _ _ _ _ _ _ _ _ _ _ _ _;intro W u hu hsW hfW hdW;have HSW:Hd (an_ W { S with its:=(S.its.modify i (a4_ false)).modify i (a5_ (hd T pos u)) }):=hi_ (by
   have h1:=hsW;dsimp only at h1;rw[HMo.o]at h1;exact h1)
  have HFW:=hi_ (HF5.o.trans hfW (fun b hb=>Or.inl hb));have HDW:=hi_ hdW;have HU:=hi_ hu;clear hsW hfW hdW hu c1 c2;dsimp only;go_wp2_with fail
  have hd6:W.heap[w5.heap.size]?=some (.deferred (some [])):=HDW.o;have fr6:H.Frame (fun k=>k=w5.heap.size) W (W.putObj (w5.heap.size) (.deferred none)):=H.Frame.grown (S:=fun k=>k=w5.heap.size) (H.Frame.refl _ W) (grownBy_putObj_a _ _ _) (fun k e=>by cases e;exact Or.inl rfl);have hnd:¬S.foot (w5.heap.size):=eK_ HSW.o hd6 (fun _ _ _ e=>by cases e);have hs6:=HSW.o.frame fr6 (fun k hk e=>hnd (by rw[<-e];exact hk));have hf6:=HFW.o.trans fr6 (fun b e=>Or.inr (by rw[e];omega));refine⟨by simp,.inl ⟨_,_,rfl,run_takeDeferred hd6,?_⟩⟩;exact⟨.tuple #[],by simp[results,Tryz.results78,go_sem],rfl,u,HU.o.1,HU.o.2.imp_right (fun hc=>⟨pv,hps,hc⟩),hf6,hs6⟩
end A
end
section
open Go.RowKit Go.Sort
namespace A
open H G R
def dy_(m:aa_)(rs:List Rec)(x:Int×(Nat×Nat)×(Nat×Nat)):Int×(Nat×Nat)×(Nat×Nat):=(x.1,cy_ m rs x.2.1,cy_ m rs x.2.2)
theorem g8_(m:aa_)(P:List (Int×(Nat×Nat)×(Nat×Nat))):P.map (dy_ m [])=P:=by
 have:dy_ m []=id:=by funext x;rfl
 rw[this,List.map_id]
theorem g7_(m:aa_)(rs:List Rec)(r:Rec)(q:Nat×Nat):cy_ m (rs++[r]) q=bi_ m r (cy_ m rs q):=by unfold cy_;rw[List.foldl_append];rfl
theorem gh_(m:aa_)(rs:List Rec)(r:Rec)(P:List (Int×(Nat×Nat)×(Nat×Nat))):(P.map (dy_ m rs)).map (goR m r)=P.map (dy_ m (rs++[r])):=by
 rw[List.map_map];refine List.map_congr_left fun x _=>?_;show(x.1,bi_ m r (cy_ m rs x.2.1),bi_ m r (cy_ m rs x.2.2))=(x.1,cy_ m (rs++[r]) x.2.1,cy_ m (rs++[r]) x.2.2);rw[g7_,g7_]
theorem j7_{m:aa_}{r:Rec}(hr:gJ_ m r)(q:Nat×Nat):(bi_ m r q).2<=q.2+1000000:=by
 obtain⟨h1,h2,h3⟩:=hr.num;unfold bi_
 repeat' split
 all_goals ((try dsimp only);omega)
theorem j8_{m:aa_}{r:Rec}(hr:gJ_ m r)(q:Nat×Nat)(hq:has m q.1=true):has m (bi_ m r q).1=true:=by
 unfold bi_
 split
 ·exact hr.tgt
 repeat' split
 all_goals exact hq
theorem mS_{m:aa_}{P:List (Int×(Nat×Nat)×(Nat×Nat))}(hin:∀x∈P,PtIn m 1000000 x){l:List Rec}(hr:∀r∈l,gJ_ m r):∀n,n<=l.length->n<=100->∀x∈P.map (dy_ m (l.take n)),PtIn m (1000000*(n+1)) x:=by
 intro n
 induction n with
 |zero=>intro _ _ x hx;rw[List.take_zero,g8_]at hx;have h:=hin x hx;exact⟨h.ha,h.hb,by have:=h.ka;omega,by have:=h.kb;omega⟩
 |succ n ih=>
  intro hn h100 x hx;have e:l.take (n+1)=l.take n++[l[n]]:=by rw[List.take_add_one,List.getElem?_eq_getElem (by omega)];rfl
  rw[e,<-gh_]at hx;obtain⟨y,hy,rfl⟩:=List.mem_map.1 hx;have h:=ih (by omega) (by omega) y hy;have hR:=hr l[n] (List.getElem_mem _);have k1:=j7_ hR y.2.1;have k2:=j7_ hR y.2.2;have j1:=h.ka;have j2:=h.kb;exact⟨j8_ hR _ h.ha,j8_ hR _ h.hb,by show(bi_ m l[n] y.2.1).2<=_;omega,by show(bi_ m l[n] y.2.2).2<=_;omega⟩
end A
end
section
open Go.RowKit Go.Sort
namespace A
open H G R
section
variable {w w' w0 W:World} {X:Tw} {D:Nat->Prop}
end
theorem lH_(lim:Option Nat)(m:aa_)(o:G.Op):(G.step lim m o).1.length<=2:=by
 unfold G.step
 split
 ·split<;>simp
 split
 ·split
  ·unfold G.insert
   split
   ·simp
   split
   ·simp
   unfold a6_
   cases (nd m (o.at_ m)).parent<;>simp
  simp
 split
 ·simp
 split
 ·unfold G.bd_
  split
  ·simp
  split<;>simp
 split
 ·unfold G.az_
  split
  ·simp
  split
  ·simp
  split
  ·simp
  split<;>simp
 split
 ·unfold G.ax_
  split
  ·simp
  split<;>simp
 split
 ·unfold G.replace
  split
  ·simp
  split<;>simp
 split<;>simp
end A
end
section
open Go.RowKit Go.Sort
namespace A
open H G R
section
variable {w W W':World} {X:Tw} {S:bh_} {gA gB:Nat} {p q:Nat×Nat} {D:Nat->Prop}
end
end A
end
section
open Go.RowKit Go.Sort
namespace A
open H G R
def gt_(m:aa_)(x y:Nat×Nat):Prop:=(has m x.1=true/\has m y.1=true)/\(x.2<=G.sizeOf m x.1/\y.2<=G.sizeOf m y.1)/\top m x.1=top m y.1/\lcmp m x y<=0
def hg_(m:aa_)(r x:Nat):Prop:=has m r=true/\has m x=true/\contains m r x=true
structure iM_(m m':aa_)(rs:List Rec):Prop where
 wf:WF m'
 few:rs.length<=2
 rcs:∀r∈rs,gJ_ m' r
 prv:∀r∈rs,r.kind=2->∀p,r.prev=some p->has m' p=true
 keep:∀i,has m i=true->has m' i=true
 rg:∀x y,gt_ m x y->gt_ m' (cy_ m' rs x) (cy_ m' rs y)
 it:∀r x y,hg_ m r x->cE_ m' rs r x y->hg_ m' r y
theorem lI_{m:aa_}(W:WF m){o:G.Op}{lim:Option Nat}(hk:3<=o.kind % 10/\o.kind % 10<8):∀r∈(G.step lim m o).1,r.kind=2->cu_ m r:=by
 have hn:∀r∈([]:List Rec),r.kind=2->cu_ m r:=fun r hr=>by cases hr
 have hS:∀(r0:Rec),r0.kind≠2->∀r∈[r0],r.kind=2->cu_ m r:=fun r0 h0 r hr hk=>by rw[List.mem_singleton.1 hr]at hk;exact absurd hk h0
 have hC:∀h q,has m h=true->(nd m h).parent=some q->∀r∈[bm_ m h q],r.kind=2->cu_ m r:=fun h q hh hq r hr hk=>by rw[List.mem_singleton.1 hr];exact fe_ W hh hq
 unfold G.step;rw[if_neg (by omega)]
 split
 ·split
  ·rename_i hh
   simp only[Bool.and_eq_true]at hh;unfold G.insert
   split
   ·exact hn
   split
   ·exact hn
   intro r hr hk2
   rcases List.mem_append.1 hr with h1|h1
   ·unfold a6_ at h1
    cases hq:(nd m (o.at_ m)).parent with
    |none=>rw[hq]at h1;cases h1
    |some q=>
     rw[hq]at h1;exact hC _ q hh.1 hq r h1 hk2
   exact hS (cY_ _ _ _ _) (by exact(by decide:(1:Nat)≠2)) r h1 hk2
  exact hn
 split
 ·exact hn
 rename_i hg
 have hh:has m (o.at_ m)=true:=by simpa using hg
 split
 ·unfold G.bd_
  split
  ·exact hn
  split
  ·exact hn
  rename_i q hq
  exact hC _ q hh hq
 split
 ·unfold G.az_
  split
  ·exact hn
  split
  ·exact hn
  split
  ·exact hS _ (by exact(by decide:(3:Nat)≠2))
  split
  ·exact hn
  exact hS _ (by exact(by decide:(3:Nat)≠2))
 split
 ·unfold G.ax_
  split
  ·exact hn
  split
  ·exact hn
  exact hS _ (by exact(by decide:(3:Nat)≠2))
 split
 ·unfold G.replace
  split
  ·exact hn
  split
  ·exact hn
  exact hS _ (by exact(by decide:(4:Nat)≠2))
 omega
theorem kt_{m:aa_}(W:WF m)(hD:Whole m)(hl:m.length<=1000){o:G.Op}(h40:o.t.length<=40){lim:Option Nat}(hk:o.kind % 10≠9):iM_ m (G.step lim m o).2.2 (G.step lim m o).1:=by
 have hlt:o.kind % 10<10:=Nat.mod_lt _ (by omega)
 by_cases hg:o.kind % 10<3\/o.kind % 10=8
 ·obtain⟨g,e⟩:=kZ_ (lim:=lim) W hg
  rw[e];refine⟨g.wf',by simp,(fun r hr=>by cases hr),(fun r hr=>by cases hr),fun i hi=>g.has hi,fun x y ⟨⟨h1,h2⟩,⟨k1,k2⟩,ht,hc⟩=>?_,fun r x y ⟨h1,h2,h3⟩ hL=>?_⟩
  ·exact⟨⟨g.has h1,g.has h2⟩,⟨by rw[show cy_ _ [] x=x from rfl,g.size (aR_ h1)];exact k1,by rw[show cy_ _ [] y=y from rfl,g.size (aR_ h2)];exact k2⟩,by rw[show cy_ _ [] x=x from rfl,show cy_ _ [] y=y from rfl,g.top W (aR_ h1),g.top W (aR_ h2)];exact ht,by rw[show cy_ _ [] x=x from rfl,show cy_ _ [] y=y from rfl,g.lcmp W (aR_ h1) (aR_ h2) ht];exact hc⟩
  obtain rfl:y=x:=hL;exact⟨g.has h1,g.has h2,by rw[g.contains W r (aR_ h2)];exact h3⟩
 have hk2:3<=o.kind % 10/\o.kind % 10<8:=by omega
 have hK:=cG_ (lim:=lim) (m:=m) hk2;have hR:WF (G.step lim m o).2.2/\iN_ m (G.step lim m o).1:=by
  have h0:ef_ m (0,0):=⟨W.doc.1,Nat.zero_le _⟩;have h:=gr_ (lim:=lim) W hD (by omega) h40 hk2 h0 h0 rfl (by unfold lcmp;simp);exact⟨h.1.1,h.2⟩
 refine⟨hR.1,lH_ _ _ _,fun r hr=>?_,fun r hr hk p hp=>?_,fun i hi=>by rw[hK.has];exact hi,fun x y ⟨⟨h1,h2⟩,⟨k1,k2⟩,ht,hc⟩=>?_,fun r x y ⟨h1,h2,h3⟩ hL=>?_⟩
 ·have h:=hR.2 r hr
  refine⟨by rw[hK.has];exact h.tgt,fun e=>?_,h.idx,h.cnt,h.siz⟩;obtain⟨x,e1,e2⟩:=h.cut e;refine⟨x,e1,?_⟩;rw[hK.has];have h3:=h.tgt;unfold G.has at h3 ⊢;rw[W.gone x r.target e2];exact h3
 ·rw[hK.has]
  exact(lI_ W hk2 r hr hk).2.2.1 p hp
 ·obtain⟨⟨_,b1,b2,b3,b4⟩,hR2⟩:=gr_ (lim:=lim) W hD (by omega) h40 hk2 (x:=x) (y:=y) ⟨aR_ h1,k1⟩ ⟨aR_ h2,k2⟩ ht hc
  exact⟨⟨by rw[hK.has];exact gg_ W hR.1 hK _ hR.2 x h1,by rw[hK.has];exact gg_ W hR.1 hK _ hR.2 y h2⟩,⟨b1.2,b2.2⟩,b3,b4⟩
 have hc:=kL_ W hk2 h3 hL;have hr':has (G.step lim m o).2.2 r=true:=by rw[hK.has];exact h1
 refine⟨hr',?_,hc⟩;have hg:=mL_ hR.1 y hc;unfold G.has at hr' ⊢;rw[hg];exact hr'
theorem later11{w:World}{g:Nat}{t:TypeId}{a0 a1 a2 a3 a4 a5 a6 a7 a8 a9 a10:Value}(h:Blk g #[a0,a1,a2,a3,a4,a5,a6,a7,a8,a9,a10] t w) :
  (∀d:Later w.heap.size w,d.w.cell? ⟨g,0,none⟩=some a0)/\(∀d:Later w.heap.size w,d.w.cell? ⟨g,1,none⟩=some a1)/\(∀d:Later w.heap.size w,d.w.cell? ⟨g,2,none⟩=some a2)/\(∀d:Later w.heap.size w,d.w.cell? ⟨g,3,none⟩=some a3)/\(∀d:Later w.heap.size w,d.w.cell? ⟨g,4,none⟩=some a4)/\(∀d:Later w.heap.size w,d.w.cell? ⟨g,5,none⟩=some a5)/\(∀d:Later w.heap.size w,d.w.cell? ⟨g,6,none⟩=some a6)/\(∀d:Later w.heap.size w,d.w.cell? ⟨g,7,none⟩=some a7)/\(∀d:Later w.heap.size w,d.w.cell? ⟨g,8,none⟩=some a8)/\(∀d:Later w.heap.size w,d.w.cell? ⟨g,9,none⟩=some a9)/\∀d:Later w.heap.size w,d.w.cell? ⟨g,10,none⟩=some a10:=by
 have hc:=(ae_ h).1;have hl:=h.lt;exact⟨fun d=>Later.cell (hc 0) hl d,fun d=>Later.cell (hc 1) hl d,fun d=>Later.cell (hc 2) hl d,fun d=>Later.cell (hc 3) hl d,fun d=>Later.cell (hc 4) hl d,fun d=>Later.cell (hc 5) hl d,fun d=>Later.cell (hc 6) hl d,fun d=>Later.cell (hc 7) hl d,fun d=>Later.cell (hc 8) hl d,fun d=>Later.cell (hc 9) hl d,fun d=>Later.cell (hc 10) hl d⟩
abbrev Itr:=Int×Nat×Nat×Bool
def mkI(T:am_)(pos:Nat->Nat)(a:Itr):It:=⟨a.1,hd T pos a.2.1,hd T pos a.2.2.1,a.2.2.2⟩
def Rel2{α:Type}(R:α->α->Prop)(l l':List α):Prop:=l.length=l'.length/\∀(k:Nat) (a b:α),l[k]?=some a->l'[k]?=some b->R a b
def nu_(m:aa_)(rs:List Rec)(I J:List Itr):Prop:=Rel2 (fun a b=>b.1=a.1/\b.2.1=a.2.1/\cE_ m rs a.2.1 a.2.2.1 b.2.2.1) I J
def nv_(m:aa_)(r:Rec)(n:Nat)(I J:List Itr):Prop:=I.length=J.length/\∀(k:Nat) (a b:Itr),I[k]?=some a->J[k]?=some b->(k<n->b.1=a.1/\b.2.1=a.2.1/\c5_ m r a.2.1 a.2.2.1 b.2.2.1)/\(n<=k->b=a)
theorem mr_(m:aa_)(I:List Itr):nu_ m [] I I:=⟨rfl,fun k a b h1 h2=>by
 rw[h1]at h2;injection h2 with h2
 subst h2;exact⟨rfl,rfl,rfl⟩⟩
theorem kP_(m:aa_)(r:Rec)(I:List Itr):nv_ m r 0 I I:=⟨rfl,fun k a b h1 h2=>⟨fun h=>by omega,fun _=>by
 rw[h1]at h2;injection h2 with h2
 exact h2.symm⟩⟩
theorem kQ_{m:aa_}{r:Rec}{n:Nat}{I J:List Itr}(h:nv_ m r n I J){a:Itr}(hn:J[n]?=some a){b:Itr}(hb:b.1=a.1/\b.2.1=a.2.1/\c5_ m r a.2.1 a.2.2.1 b.2.2.1):nv_ m r (n+1) I (J.set n b):=by
 have hlt:n<J.length:=(List.getElem?_eq_some_iff.1 hn).1;refine⟨by rw[List.length_set];exact h.1,fun k x y h1 h2=>?_⟩;rw[List.getElem?_set]at h2
 by_cases e:n=k
 ·subst e
  rw[if_pos rfl,if_pos hlt]at h2;injection h2 with h2
  subst h2;have h3:=(h.2 n x a h1 hn).2 (nl_);subst h3;exact⟨fun _=>hb,fun h4=>by omega⟩
 rw[if_neg e]at h2;obtain⟨h3,h4⟩:=h.2 k x y h1 h2;exact⟨fun h5=>h3 (by omega),fun h5=>h4 (by omega)⟩
theorem kO_{m:aa_}{rs:List Rec}{r:Rec}{I J K:List Itr}(h:nu_ m rs I J)(g:nv_ m r J.length J K):nu_ m (rs++[r]) I K:=by
 refine⟨h.1.trans g.1,fun k a b h1 h2=>?_⟩;have hk:k<J.length:=by
  have:=(List.getElem?_eq_some_iff.1 h1).1;rw[<-h.1];exact this
 have h3:J[k]?=some J[k]:=List.getElem?_eq_getElem hk;obtain⟨a1,a2,a3⟩:=h.2 k a _ h1 h3;obtain⟨b1,b2,b3⟩:=(g.2 k _ b h3 h2).1 hk;refine⟨b1.trans a1,b2.trans a2,eN_ a3 ?_⟩;rw[a2]at b3;exact b3
theorem leaveI_(T:am_)(m:aa_)(pos:Nat->Nat)(S:bh_)(Q:List (Int×(Nat×Nat)×(Nat×Nat)))(J:List Itr)(j cap g:Nat)(r:Rec)(a:Itr)(W:World)(hT:ag_ W T m pos)(hS:an_ W { S with rs:=Q.map (mkR T pos),its:=J.map (mkI T pos) })(h1:S.iv=.slice (some ⟨g,0,none⟩) (J.map (mkI T pos)).length cap)(h2:J[j]?=some a)(h3:gJ_ m r)(h4:r.kind=2->∀p,r.prev=some p->has m p=true)(h5:has m a.2.1=true/\has m a.2.2.1=true) :
  Calls Tryz.prog 78 #[.pointer (some ⟨T.tb,0,none⟩),.pointer (some ⟨g,j*4,none⟩),lY_ T pos r] W fun e w'=>e=.returned (.tuple #[])/\∃b:Itr,(b.1=a.1/\b.2.1=a.2.1/\c5_ m r a.2.1 a.2.2.1 b.2.2.1)/\(has m b.2.1=true/\has m b.2.2.1=true)/\H.Frame S.foot W w'/\an_ w' { S with rs:=Q.map (mkR T pos),its:=(J.set j b).map (mkI T pos) }:=by
 have hj:=(List.getElem?_eq_some_iff.1 h2).1;have hja:=(List.getElem?_eq_some_iff.1 h2).2;have hlt:j<(J.map (mkI T pos)).length:=by rw[List.length_map];exact hj
 have hat:(J.map (mkI T pos))[j]=mkI T pos a:=by rw[List.getElem_map,hja]
 by_cases c:r.kind=2/\∃h,r.node=some h/\contains m h a.2.2.1=true/\contains m h a.2.1=false
 ·obtain⟨k2,h,hn,c1,c2⟩:=c
  obtain⟨h',e,hh⟩:=h3.cut k2;rw[hn]at e;injection e with e
  subst e;refine(oc_ T m pos { S with rs:=Q.map (mkR T pos),its:=J.map (mkI T pos) } j cap g r a.2.1 a.2.2.1 h W hT hS h1 hlt (by show(J.map (mkI T pos))[j].root=_;rw[hat];rfl) (by show(J.map (mkI T pos))[j].ref=_;rw[hat];rfl) h5.1 h5.2 k2 hn hh h3.tgt (h4 k2) c1 c2).mono ?_;rintro e w' ⟨rfl,y,hy,hyy,hf,hs⟩;refine⟨rfl,(a.1,a.2.1,y,false),⟨rfl,rfl,?_⟩,⟨h5.1,hy⟩,hf,?_⟩
  ·unfold c5_
   rw[if_pos ⟨k2,h,hn,c1,c2⟩]
   rcases hyy with e|⟨p,hp,q1,q2⟩
   ·exact Or.inl e
   exact Or.inr ⟨p,h,hp,hn,q1,q2⟩
  have e:((J.map (mkI T pos)).modify j (a4_ false)).modify j (a5_ (hd T pos y))=(J.set j (a.1,a.2.1,y,false)).map (mkI T pos):=by
   refine List.ext_getElem (by simp) fun k g1 g2=>?_;simp only[List.getElem_modify,List.getElem_map,List.getElem_set]
   by_cases e:j=k
   ·subst e
    simp only[if_true,hja];rfl
   simp only[if_neg e]
  rw[<-e];exact hs
 refine(ob_ T m pos { S with rs:=Q.map (mkR T pos),its:=J.map (mkI T pos) } j cap g r a.2.1 a.2.2.1 W hT hS h1 hlt (by show(J.map (mkI T pos))[j].root=_;rw[hat];rfl) (by show(J.map (mkI T pos))[j].ref=_;rw[hat];rfl) h5.1 h5.2 ?_).mono ?_
 ·by_cases k2:r.kind=2
  ·obtain⟨h,e,hh⟩:=h3.cut k2
   refine Or.inr ⟨k2,h,e,hh,?_⟩
   cases c1:contains m h a.2.2.1 with
   |false=>exact Or.inl rfl
   |true=>
    refine Or.inr ⟨rfl,?_⟩
    cases c2:contains m h a.2.1 with
    |true=>rfl
    |false=>exact absurd ⟨k2,h,e,c1,c2⟩ c
  exact Or.inl k2
 rintro e w' ⟨rfl,hb⟩;refine⟨rfl,a,⟨rfl,rfl,by unfold c5_;rw[if_neg c]⟩,h5,Frame.of hb,?_⟩;have e:J.set j a=J:=by
  refine List.ext_getElem (by simp) fun k g1 g2=>?_;rw[List.getElem_set]
  split
  ·rename_i e;subst e;exact hja.symm
  rfl
 rw[e];exact hS.below hb
def nw_(m:aa_)(I:List Itr):Prop:=∀a∈I,has m a.2.1=true/\has m a.2.2.1=true
theorem nB_(T:am_)(m:aa_)(pos:Nat->Nat)(S:bh_)(P:List (Int×(Nat×Nat)×(Nat×Nat)))(I:List Itr)(base:Nat)(v:Value)(rs:List Rec)(w:World)(hT:ag_ w T m pos)(hS:an_ w S)(hv:aD_ T pos base w v rs)(hI:S.its=I.map (mkI T pos))
  (hP:S.rs=P.map (mkR T pos)) (hr:∀r∈rs,gJ_ m r) (hpr:∀r∈rs,r.kind=2->∀p,r.prev=some p->has m p=true) (hl:rs.length<=100) (hin:∀x∈P,PtIn m 1000000 x) (hih:nw_ m I) :
  Calls Tryz.prog 25 #[.pointer (some ⟨S.sb,0,none⟩),.pointer (some ⟨T.tb,0,none⟩),v] w fun e w'=>e=.returned (.tuple #[])/\∃J,H.Frame S.foot w w'/\an_ w' { S with rs:=(P.map (dy_ m rs)).map (mkR T pos),its:=J.map (mkI T pos) }/\nu_ m rs I J/\nw_ m J:=by
 obtain⟨vo,vcap,rfl⟩:=hv.form;obtain⟨io,icap,hiv⟩:=ab_.slice hS.itrow;have hlen:S.its.length=I.length:=by rw[hI,List.length_map]
 rw[hlen]at hiv;have hfew:I.length<=10000:=by rw[<-hlen];exact hS.few.2
 have HIv:=hi_ hiv;have hb2:=((Below.refl w.heap.size w).alloc (nl_) (.cells #[.pointer (some ⟨S.sb,0,none⟩)] 109)).alloc (by simp) (.cells #[.pointer (some ⟨T.tb,0,none⟩)] 37);have hBs:=(Blk.new w #[.pointer (some ⟨S.sb,0,none⟩)] 109).alloc (.cells #[.pointer (some ⟨T.tb,0,none⟩)] 37);have hBt:=Blk.new (w.alloc (.cells #[.pointer (some ⟨S.sb,0,none⟩)] 109)) #[.pointer (some ⟨T.tb,0,none⟩)] 37;rw[World.size_alloc]at hBt;have hS1:=hS.below hb2;have hT1:=hT.below hb2;have hv1:aD_ T pos base _ _ rs:=own_below hv hb2;have HFw:Hd (H.Frame S.foot w _):=hi_ (Frame.of hb2);have HS1:=hi_ hS1;have HSo:Hd (S={ S with rs:=(P.map (dy_ m (rs.take 0))).map (mkR T pos),its:=I.map (mkI T pos) }):=hi_ (by rw[List.take_zero,g8_,<-hP,<-hI])
 have HEnd:Hd (rs.take rs.length=rs):=hi_ (List.take_length);have HBs:=hi_ hBs;have HBt:=hi_ hBt;have HGoA:=hi_ (fun n hn h100=>mS_ hin hr n hn h100);have HRi:=hi_ hr;have HPr:=hi_ hpr;have HIh:=hi_ hih;have HSn:=hi_ (fun n (hn:n<rs.length)=>(show rs.take (n+1)=rs.take n++[rs[n]] by rw[List.take_add_one,List.getElem?_eq_getElem hn];rfl));obtain⟨W2,hW2⟩:∃W2,W2=(w.alloc (.cells #[.pointer (some ⟨S.sb,0,none⟩)] 109)).alloc (.cells #[.pointer (some ⟨T.tb,0,none⟩)] 37):=⟨_,rfl⟩;have HN:Hd (¬S.foot w.heap.size/\¬S.foot (w.heap.size+1)):=hi_ ⟨cl_ hS1 hBs (by decide),cl_ hS1 hBt (by decide)⟩;have HTr:=hi_ (fun W (f:H.Frame S.foot W2 W)=>(by rw[hW2]at f;exact hT1.frame hS1 f:ag_ W T m pos));have HVr:=hi_ (fun W (f:H.Frame S.foot W2 W)=>(by
  rw[hW2]at f;refine ak_ hv1 f (fun g hg hs=>?_);obtain⟨cs,hc⟩:=a3_ hv1 hg;exact cl_ hS1 hc (by decide) hs:aD_ T pos base W (.slice vo rs.length vcap) rs))
 have QE:=hi_ (fun(r:Rec) (Q:List (Int×(Nat×Nat)×(Nat×Nat))) (J:List Itr) (br:Nat) (W:World) (hTW:ag_ W T m pos) (hSW:an_ W { S with rs:=Q.map (mkR T pos),its:=J.map (mkI T pos) }) (h1:Blk w.heap.size #[.pointer (some ⟨S.sb,0,none⟩)] 109 W) (h2:Blk (w.heap.size+1) #[.pointer (some ⟨T.tb,0,none⟩)] 37 W) (h3:Blk br (av_ T pos r).toArray 73 W) (h4:gJ_ m r) (h5:∀x∈Q,PtIn m 1000000000 x)=>each_ T m pos r { S with rs:=Q.map (mkR T pos),its:=J.map (mkI T pos) } Q w.heap.size (w.heap.size+1) br W hTW hSW h1 h2 h3 rfl h4 h5)
 have QL:=hi_ (fun(r:Rec) (Q:List (Int×(Nat×Nat)×(Nat×Nat))) (J:List Itr) (j cap g:Nat) (a:Itr) (W:World) (hTW:ag_ W T m pos) (hSW:an_ W { S with rs:=Q.map (mkR T pos),its:=J.map (mkI T pos) }) (h1:S.iv=.slice (some ⟨g,0,none⟩) (J.map (mkI T pos)).length cap) (h2:J[j]?=some a) (h3:gJ_ m r) (h4:r.kind=2->∀p,r.prev=some p->has m p=true) (h5:has m a.2.1=true/\has m a.2.2.1=true)=>leaveI_ T m pos S Q J j cap g r a W hTW hSW h1 h2 h3 h4 h5);clear hT hS hv hI hP hr hpr hin hih hb2 hBs hBt hS1 hT1 hv1 hiv hlen
 go_enter Tryz.func25,Tryz.ntmps25
 go_upto_region 2 with fail
 rw[<-hW2]at HFw HS1 HBs HBt ⊢;clear hW2;go_wp2_with fail
 go_loopw [13] (fun v13 wr=>∃(i:Nat) (J:List Itr),v13=.int .i64 i/\i<=rs.length/\Hd (H.Frame S.foot W2 wr)/\Hd (an_ wr { S with rs:=(P.map (dy_ m (rs.take i))).map (mkR T pos),its:=J.map (mkI T pos) })/\Hd (nu_ m (rs.take i) I J)/\Hd (nw_ m J)) (fun v13 _=>rs.length-(a2_ v13).toNat)
 case atStart=>exact⟨0,I,rfl,Nat.zero_le _,hi_ (Frame.refl _ _),hi_ (by rw[<-HSo.o];exact HS1.o),hi_ (by rw[List.take_zero];exact mr_ m I),HIh⟩
 obtain⟨i,J,rfl,hi,HF,HS,HTo,HJh⟩:=hrel
 by_cases hil:i<rs.length
 ·have hiI:(i:Int)<(rs.length:Int):=by omega
  have hvr:=HVr.o wr HF.o;obtain⟨g0,cap',e,_,hgl,_⟩:=a1_ hvr (by omega);injection e with e1 _ e3
  subst e1 e3;have c:=fun k (hk:k<11)=>(ab_.cell (d0_ T pos) hvr hil (k:=k) hk).1;have c0:=c 0 (by omega);have c1:=c 1 (by omega);have c2:=c 2 (by omega);have c3:=c 3 (by omega);have c4:=c 4 (by omega);have c5:=c 5 (by omega);have c6:=c 6 (by omega);have c7:=c 7 (by omega);have c8:=c 8 (by omega);have c9:=c 9 (by omega);have c10:=c 10 (by omega);have HRr:=hi_ (HRi.o rs[i] (List.getElem_mem hil));have HRp:=hi_ (HPr.o rs[i] (List.getElem_mem hil));have HSni:=hi_ (HSn.o i hil);have HPi:=hi_ (HGoA.o i hi (by omega));have HJl:Hd (J.length=I.length):=hi_ HTo.o.1.symm;simp only[av_,List.getElem?_cons_zero,List.getElem?_cons_succ,Nat.add_zero]at c0 c1 c2 c3 c4 c5 c6 c7 c8 c9 c10;generalize rs[i]=r at *;clear c hvr;go_upto_region 5 with fail
  have hbb:=(Below.refl wr.heap.size wr).alloc (nl_) (.cells (av_ T pos r).toArray 73);have hbr:=Blk.new wr (av_ T pos r).toArray 73;show Code.wp _ _ _ _ (wr.alloc (.cells (av_ T pos r).toArray 73));have HF1:Hd (H.Frame S.foot W2 _):=hi_ (HF.o.below_ hbb);have HS1':=hi_ (HS.o.below hbb);have HBr:=hi_ hbr;have HNr:Hd (¬S.foot wr.heap.size):=hi_ (fun hk=>by have h1:=HS.o.foot_lt (k:=wr.heap.size) hk;omega);obtain⟨br,hbrr⟩:∃br,br=wr.heap.size:=⟨_,rfl⟩;rw[<-hbrr]at HBr HNr ⊢;clear hbb hbr c0 c1 c2 c3 c4 c5 c6 c7 c8 c9 c10 HF HS hgl hbrr;generalize wr.alloc (.cells (av_ T pos r).toArray 73)=w5 at *
  have Q1:=hi_ (QE.o r (P.map (dy_ m (rs.take i))) J br w5 (HTr.o w5 HF1.o) HS1'.o (HBs.o.frame HF1.o HN.o.1) (HBt.o.frame HF1.o HN.o.2) HBr.o HRr.o (fun x hx=>by have h:=HPi.o x hx;exact⟨h.ha,h.hb,by have:=h.ka;omega,by have:=h.kb;omega⟩));go_wp2_with fail
  refine Q1.o.mono ?_;rintro e w6 ⟨rfl,hf6,hs6⟩;have HF6:=hi_ (HF1.o.trans hf6 (fun b hb=>Or.inl hb));have HBr6:=hi_ (HBr.o.frame hf6 HNr.o);have HS6:Hd (an_ w6 { S with rs:=(P.map (dy_ m (rs.take (i+1)))).map (mkR T pos),its:=J.map (mkI T pos) }):=hi_ (by
   have h1:=hs6
   (try dsimp only at h1)
   rw[gh_,<-HSni.o]at h1;exact h1)
  clear hf6 hs6 Q1 HF1 HS1' HBr HPi;obtain⟨s0,s1,s2,s3⟩:=cr_ HS6.o.blk;dsimp only at s1 s3;rw[HIv.o]at s1;have b0:=(ae_ (HBs.o.frame HF6.o HN.o.1)).1 0;have b1:=(HBs.o.frame HF6.o HN.o.1).lt;clear s0 s2;go_wp2_with fail
  go_loopw [25] (fun v25 wr=>∃(j:Nat) (K:List Itr),v25=.int .i64 j/\j<=I.length/\Hd (H.Frame S.foot w6 wr)/\Hd (an_ wr { S with rs:=(P.map (dy_ m (rs.take (i+1)))).map (mkR T pos),its:=K.map (mkI T pos) })/\Hd (nv_ m r j J K)/\Hd (nw_ m K)) (fun v25 _=>I.length-(a2_ v25).toNat)
  case atStart=>exact⟨0,J,rfl,Nat.zero_le _,hi_ (Frame.refl _ _),HS6,hi_ (kP_ m r J),HJh⟩
  obtain⟨j,K,rfl,hj,HFj,HSj,HAt,HKh⟩:=hrel;clear s1 s3 b0 b1
  by_cases hjl:j<I.length
  ·have hjI:(j:Int)<(I.length:Int):=by omega
   have hj0:(0:Int)<=(j:Int):=by omega
   have hKl:K.length=I.length:=by have h1:=HAt.o.1;have h2:=HJl.o;omega
   obtain⟨a,ha⟩:∃a,K[j]?=some a:=⟨_,List.getElem?_eq_getElem (by omega)⟩;have HHa:=hi_ ha;have HHh:=hi_ (HKh.o a (List.mem_of_getElem? ha));have HFw6:=hi_ (HF6.o.trans HFj.o (fun b hb=>Or.inl hb));obtain⟨g,capg,e,_,hgl,_⟩:=a1_ HSj.o.itrow (by show 0<(K.map _).length;rw[List.length_map];omega);have e:S.iv=.slice (some ⟨g,0,none⟩) (K.map (mkI T pos)).length capg:=e;have e2:=e;rw[HIv.o]at e2;injection e2 with e3 e4 e5
   subst e3 e5;have HIg:=hi_ e;have QLj:=hi_ (fun W (hW:Below wr.heap.size wr W)=>QL.o r (P.map (dy_ m (rs.take (i+1)))) K j icap g a W ((HTr.o wr HFw6.o).below hW) (HSj.o.below hW) HIg.o HHa.o HRr.o HRp.o HHh.o);have HBs2:=HBs.o.frame HFw6.o HN.o.1;have HBt2:=HBt.o.frame HFw6.o HN.o.2;have HBr2:=HBr6.o.frame HFj.o HNr.o;obtain⟨s0,s1,s2,s3⟩:=cr_ HSj.o.blk;dsimp only at s1 s3;rw[HIv.o]at s1;have x0:=(ae_ HBs2).1 0;have y0:=(ae_ HBt2).1 0;have D1:=lc_ s1 s3;have D2:=fun d:Later wr.heap.size wr=>Later.cell x0 HBs2.lt d;have D3:=fun d:Later wr.heap.size wr=>Later.cell y0 HBt2.lt d;obtain⟨r0,r1,r2,r3,r4,r5,r6,r7,r8,r9,r10⟩:=later11 HBr2;clear s0 s2 ha hKl e e4;unfold lY_ at QLj;go_upto_region 9 with fail
   refine ao_ 8 _ _ (by kernel_rfl) (by kernel_rfl) rfl ?_;simp only[List.take_succ_cons,List.take_zero];repeat (go_big_quiet_step (fail))
   refine wq_ (fun dq=>?_);have HB:=hi_ dq.h;clear D1 D2 D3 r0 r1 r2 r3 r4 r5 r6 r7 r8 r9 r10 HBs2 HBt2 HBr2 x0 y0 s1 s3;generalize dq.w=w7 at *;clear dq;intro KK hK;go_simp
   refine(QLj.o w7 HB.o).mono ?_;rintro e w8 ⟨rfl,b,hb,hbh,hf8,hs8⟩;have HF8:=hi_ (HFj.o.trans (Frame.trans (Frame.of HB.o) hf8 (fun k hk=>Or.inl hk)) (fun k hk=>Or.inl hk));have HS8:=hi_ hs8;have HAt8:=hi_ (kQ_ HAt.o HHa.o hb);have HKh8:Hd (nw_ m (K.set j b)):=hi_ (fun z hz=>by
    rcases List.mem_or_eq_of_mem_set hz with h1|h1
    ·exact HKh.o z h1
    rw[h1];exact hbh)
   clear hb hbh hf8 hs8 QLj HB HSj HAt HFj HKh HFw6 HHa HHh HIg
   (try go_simp)
   refine hK _ _ (as_ ?_);clear hK KK;refine wq_ (fun dq=>?_);have HF9:=hi_ (HF8.o.below_ dq.h);have HS9:=hi_ (HS8.o.below dq.h);clear HF8 HS8;generalize dq.w=w9 at *;clear dq;go_wp2_with fail
   refine⟨⟨j+1,K.set j b,by push_cast;rfl,by omega,HF9,HS9,HAt8,HKh8⟩,?_⟩;show I.length-((j:Int)+1).toNat<I.length-((j:Int)).toNat;omega
  have hje:j=I.length:=by omega
  have HAtE:=hi_ (kO_ HTo.o (by have h1:=HAt.o;rw[hje,<-HJl.o]at h1;exact h1));subst hje;have hnot:¬((I.length:Nat):Int)<((I.length:Nat):Int):=by omega
  go_wp2_with fail
  refine⟨⟨i+1,K,by push_cast;rfl,by omega,hi_ (HF6.o.trans HFj.o (fun b hb=>Or.inl hb)),HSj,hi_ (by rw[HSni.o];exact HAtE.o),HKh⟩,?_⟩;show rs.length-((i:Int)+1).toNat<rs.length-((i:Int)).toNat;omega
 obtain rfl:i=rs.length:=by omega
 go_wp2_with fail
 exact bodyPost_end (v:=.tuple #[]) (by simp[results,Tryz.results25,go_sem]) rfl ⟨rfl,J,HFw.o.trans HF.o (fun b hb=>Or.inl hb),by have:=HS.o;rw[HEnd.o]at this;exact this,by have:=HTo.o;rw[HEnd.o]at this;exact this,HJh.o⟩
end A
end
section
open Go.RowKit Go.Sort
namespace A
open H G R
abbrev Rng:=Int×(Nat×Nat)×(Nat×Nat)
structure hJ_(X:Tw)(k:Nat):Prop where
 ok1:dk_ (cR_ k) X.m
 ok2:dk_ (cR_ k) X.M.m
 len:X.m.length<=400
 k200:k<=150
section
variable {X:Tw} {k:Nat}
theorem hJ_.whole(g:hJ_ X k):Whole X.m:=fun i=>by
 have h:=g.ok1 i;unfold bod cR_ at h;dsimp only at h;have:=g.k200;exact⟨by have:=h.2.2;omega,h.2.1⟩
theorem hJ_.attrs(g:hJ_ X k)(i:Nat):(nd X.m i).attrs.length<=100000:=by
 have h:=(g.ok1 i).1;unfold bod at h;dsimp only at h;have:=g.k200;omega
theorem hJ_.small(g:hJ_ X k):gs_ X.m:=hl_ g.whole g.attrs
end
theorem k7_{X:Tw}(g:Good X):hJ_ X 60:=⟨g.ok,by rw[g.mm];exact g.ok,by have:=g.len;omega,by omega⟩
structure StT(w W:World)(X:Tw)(S:bh_)(P:List Rng)(I:List Itr)(n:Nat):Prop where
 tw:∃wd d,bu_ w W { X with wD:=wd,D:=d }
 set:an_ W S
 sl:∀k,S.foot k->w.heap.size<=k
 rs:S.rs=P.map (mkR X.T X.pos)
 its:S.its=I.map (mkI X.T X.pos)
 pts:∀x∈P,gt_ X.m x.2.1 x.2.2
 ins:∀a∈I,hg_ X.m a.2.1 a.2.2.1
 rid:Asc (P.map (·.1))
 iid:Asc (I.map (·.1))
 rub:∀x∈P,x.1<=S.last
 iub:∀a∈I,a.1<=S.last
 num:P.length<=n/\I.length<=n/\0<=S.last/\S.last<=n
section
variable {w W W':World} {X:Tw} {S:bh_} {P:List Rng} {I:List Itr} {n k:Nat}
theorem StT.bel(h:StT w W X S P I n):Below w.heap.size w W:=by obtain⟨_,_,t⟩:=h.tw;exact t.bel
theorem StT.tree(h:StT w W X S P I n):ag_ W X.T X.m X.pos:=by obtain⟨_,_,t⟩:=h.tw;exact t.tree
theorem StT.blk(h:StT w W X S P I n):Blk X.tb #[.pointer (some ⟨X.T.tb,0,none⟩),.pointer (some ⟨X.M.mb,0,none⟩),X.hv] 41 W:=by obtain⟨_,_,t⟩:=h.tw;exact t.blk
theorem StT.below(h:StT w W X S P I n)(b:Below W.heap.size W W'):StT w W' X S P I n:=by
 obtain⟨wd,d,t⟩:=h.tw;exact⟨⟨wd,d,t.below b⟩,h.set.below b,h.sl,h.rs,h.its,h.pts,h.ins,h.rid,h.iid,h.rub,h.iub,h.num⟩
theorem StT.more(h:StT w W X S P I n):StT w W X S P I (n+1):=⟨h.tw,h.set,h.sl,h.rs,h.its,h.pts,h.ins,h.rid,h.iid,h.rub,h.iub,by have:=h.num;omega⟩
theorem rgOk_of{T:am_}{m:aa_}{pos:Nat->Nat}{x:Rng}(h:gt_ m x.2.1 x.2.2):RgOk T m pos (mkR T pos x):=⟨x.2.1,x.2.2,⟨rfl,rfl,rfl,rfl⟩,h.1,h.2.1,h.2.2.1,h.2.2.2⟩
theorem me_{α β:Type}(f:α->β)(g:β->Int)(l:List α):(l.map f).map g=l.map (fun x=>g (f x)):=by rw[List.map_map];rfl
theorem StT.ok(h:StT w W X S P I n):SetOk X.T X.m X.pos S:=by
 refine⟨fun r hr=>?_,fun x hx=>?_,?_,?_,fun r hr=>?_,fun x hx=>?_⟩
 ·rw[h.rs]at hr
  obtain⟨x,hx,rfl⟩:=List.mem_map.1 hr;exact rgOk_of (h.pts x hx)
 ·rw[h.its]at hx
  obtain⟨a,ha,rfl⟩:=List.mem_map.1 hx;have h1:=h.ins a ha;exact⟨a.2.1,a.2.2.1,⟨rfl,rfl⟩,⟨h1.1,h1.2.1⟩,h1.2.2⟩
 ·rw[h.rs,me_];exact h.rid
 ·rw[h.its,me_];exact h.iid
 ·rw[h.rs]at hr
  obtain⟨x,hx,rfl⟩:=List.mem_map.1 hr;exact h.rub x hx
 rw[h.its]at hx;obtain⟨a,ha,rfl⟩:=List.mem_map.1 hx;exact h.iub a ha
theorem StT.valid(h:StT w W X S P I n)(g:hJ_ X k) :
  Calls Tryz.prog 21 #[.pointer (some ⟨S.sb,0,none⟩),.pointer (some ⟨X.T.tb,0,none⟩)] W fun e W'=>e=.returned (.bool true)/\StT w W' X S P I n:=
 (oM_ X.T X.m X.pos S W h.tree h.set g.whole g.attrs (by have:=g.len;omega) h.ok).mono fun e W' ⟨h1,h2⟩=>⟨h1,h.below h2⟩
theorem StT.put(h:StT w W X S P I n){S':bh_}{P':List Rng}{I':List Itr}{n':Nat}(f:H.Frame S.foot W W')(hs:an_ W' S')(hl:∀k,S'.foot k->w.heap.size<=k)(h1:S'.rs=P'.map (mkR X.T X.pos))(h2:S'.its=I'.map (mkI X.T X.pos))
  (h3:∀x∈P',gt_ X.m x.2.1 x.2.2) (h4:∀a∈I',hg_ X.m a.2.1 a.2.2.1) (h5:Asc (P'.map (·.1))) (h6:Asc (I'.map (·.1))) (h7:∀x∈P',x.1<=S'.last) (h8:∀a∈I',a.1<=S'.last) (h9:P'.length<=n'/\I'.length<=n'/\0<=S'.last/\S'.last<=n'):StT w W' X S' P' I' n':=by
 obtain⟨wd,d,t⟩:=h.tw;exact⟨⟨_,_,t.frame h.set f h.sl⟩,hs,hl,h1,h2,h3,h4,h5,h6,h7,h8,h9⟩
theorem ko_{l:List Int}(h:Asc l){z:Int}(h1:∀x∈l,x<z)(h0:0<z):Asc (l++[z]):=by
 intro i hi
 rcases Nat.lt_or_ge i l.length with h2|h2
 ·rw[List.getElem_append_left h2]
  have h3:=h i h2;have e:kU_ (l++[z]) i=kU_ l i:=by
   cases i with
   |zero=>rfl
   |succ i=>rw[dO_ (by simp;omega),dO_ (by omega),List.getElem_append_left (by omega)]
  rw[e];exact h3
 have e:i=l.length:=by simp at hi;omega
 subst e;rw[List.getElem_append_right (nl_)];simp only[Nat.sub_self,List.getElem_singleton]
 cases hl:l.length with
 |zero=>
  show(0:Int)<z;exact h0
 |succ j=>
  rw[dO_ (by simp;omega),List.getElem_append_left (by omega)];exact h1 _ (List.getElem_mem _)
end
section
variable {w W W':World} {X:Tw} {S:bh_} {P:List Rng} {I:List Itr} {n k:Nat}
theorem mM_(h:StT w W X S P I n)(k:Int):ns_ X.T X.m X.pos (-1) k 6:=Or.inr ⟨cm_ h.tree.fits 0,rfl,by omega,by omega⟩
theorem StT.create(h:StT w W X S P I n)(g:hJ_ X k)(hn:n<=100)(a i:Nat)(hi:has X.m a=true->i<=G.sizeOf X.m a) :
  Calls Tryz.prog 17 #[.pointer (some ⟨S.sb,0,none⟩),.pointer (some ⟨X.T.tb,0,none⟩),be_ (hv1 X.T X.pos X.m a) (i:Nat)] W fun e W'=>∃id o S' P',e=.returned (.tuple #[.int .i64 id,.int .i64 o])/\H.Frame S.foot W W'/\StT w W' X S' P' I (n+1)/\S'.sb=S.sb ∧
   (o=0->has X.m a=true/\∃P0,P'=P0++[(id,(a,i),(a,i))]/\∀x∈P0,x.1<id):=by
 have hnum:=h.num
 cases ha:has X.m a with
 |false=>
  rw[bX_ ha];refine(lh_ X.T X.m X.pos S (-1) (i:Nat) 6 W h.tree h.set g.small (mM_ h _) (by decide)).mono ?_;rintro e W' ⟨rfl,hb⟩;exact⟨0,6,S,P,rfl,Frame.of hb,(h.below hb).more,rfl,fun h0=>by cases h0⟩
 |true=>
  have hp:ns_ X.T X.m X.pos (hd X.T X.pos a) (i:Nat) 0:=Or.inl ⟨a,ha,rfl,by rw[if_pos (e6_ (hi ha))]⟩;have hl:S.rs.length=P.length:=by rw[h.rs,List.length_map]
  rw[da_ ha];refine(iz_ X.T X.m X.pos S (hd X.T X.pos a) (i:Nat) W h.tree h.set g.small hp (by omega) (by omega)).mono ?_;rintro e W' ⟨v,rfl,hf,hs,hv⟩;have hid:∀x∈P,x.1<S.last+1:=fun x hx=>by have:=h.rub x hx;omega
  refine⟨S.last+1,0,_,P++[(S.last+1,(a,i),(a,i))],rfl,hf,h.put hf hs ?_ ?_ h.its ?_ h.ins ?_ h.iid ?_ ?_ ?_,rfl,fun _=>⟨rfl,P,rfl,hid⟩⟩
  ·rintro b (e|e|e)
   ·exact h.sl b (Or.inl e)
   ·rcases hv b e with e|e
    ·exact h.sl b (Or.inr (Or.inl e))
    exact Nat.le_trans h.bel.size e
   exact h.sl b (Or.inr (Or.inr e))
  ·show S.rs++[_]=_
   rw[h.rs,List.map_append];rfl
  ·intro x hx
   rcases List.mem_append.1 hx with hx|hx
   ·exact h.pts x hx
   obtain rfl:x=(S.last+1,(a,i),(a,i)):=by simpa using hx
   exact⟨⟨ha,ha⟩,⟨hi ha,hi ha⟩,rfl,by rw[ic_];omega⟩
  ·rw[List.map_append]
   exact ko_ h.rid (fun x hx=>by obtain⟨y,hy,rfl⟩:=List.mem_map.1 hx;exact hid y hy) (by show 0<S.last+1;omega)
  ·intro x hx
   show x.1<=S.last+1
   rcases List.mem_append.1 hx with hx|hx
   ·have:=h.rub x hx;omega
   obtain rfl:x=(S.last+1,(a,i),(a,i)):=by simpa using hx
   exact Int.le_refl _
  ·intro x hx
   show x.1<=S.last+1;have:=h.iub x hx;omega
  refine⟨by rw[List.length_append];show P.length+1<=_;omega,by omega,by show 0<=S.last+1;omega,by show S.last+1<=_;omega⟩
theorem nZ_(T:am_)(m:aa_)(pos:Nat->Nat)(id:Int)(p q:Nat×Nat):cN_ m q p (hd T pos q.1) (q.2:Nat) (mkR T pos (id,p,p))=mkR T pos (id,if (b7_ m q p).2≠0\/(b7_ m q p).1=(-1)then q else p,q):=by
 unfold cN_
 split
 ·rfl
 rfl
theorem kG_{m:aa_}(hW:WF m){p q:Nat×Nat}(hp:has m p.1=true)(hq:has m q.1=true)(kp:p.2<=G.sizeOf m p.1)(kq:q.2<=G.sizeOf m q.1):gt_ m (if (b7_ m q p).2≠0\/(b7_ m q p).1=(-1)then q else p) q:=by
 split
 ·exact⟨⟨hq,hq⟩,⟨kq,kq⟩,rfl,by rw[ic_];omega⟩
 rename_i hc
 have ht:top m q.1=top m p.1:=by
  refine Classical.byContradiction fun e=>hc (Or.inl ?_);unfold b7_;rw[if_pos e]
  decide
 have he:b7_ m q p=(lcmp m q p,0):=if_neg (fun h=>h ht);rw[he]at hc;refine⟨⟨hp,hq⟩,⟨kp,kq⟩,ht.symm,?_⟩;rw[hw_ hW ht]
 rcases kM_ hW ht with h1|h1|h1
 ·exact absurd (Or.inr h1) hc
 ·omega
 omega
theorem StT.setEnd(h:StT w W X S P I n)(g:hJ_ X k){id:Int}{a i b j:Nat}(hha:has X.m a=true)(hi:i<=G.sizeOf X.m a)(hj:has X.m b=true->j<=G.sizeOf X.m b){P0:List Rng}(hP:P=P0++[(id,(a,i),(a,i))])(hid:∀x∈P0,x.1<id) :
  Calls Tryz.prog 19 #[.pointer (some ⟨S.sb,0,none⟩),.pointer (some ⟨X.T.tb,0,none⟩),.int .i64 id,be_ (hv1 X.T X.pos X.m b) (j:Nat)] W fun e W'=>∃o S' P',e=.returned (.int .i64 o)/\H.Frame S.foot W W'/\StT w W' X S' P' I n/\S'.sb=S.sb:=by
 have hl:S.rs.length=P0.length+1:=by rw[h.rs,List.length_map,hP,List.length_append];rfl
 have hat:∀hh,S.rs[P0.length]'hh=mkR X.T X.pos (id,(a,i),(a,i)):=fun hh=>by
  have e:S.rs=P0.map (mkR X.T X.pos)++[mkR X.T X.pos (id,(a,i),(a,i))]:=by rw[h.rs,hP,List.map_append];rfl
  simp only[e];rw[List.getElem_append_right (by simp)];simp
 have hlt:P0.length<S.rs.length:=by omega
 have hfi:eV_ S.rs id=some P0.length:=ka_ hlt (by rw[hat hlt];rfl) (fun jj hjj=>by
  have e:S.rs[jj]'(by omega)=mkR X.T X.pos (P0[jj]):=by
   have e:S.rs=P0.map (mkR X.T X.pos)++[mkR X.T X.pos (id,(a,i),(a,i))]:=by rw[h.rs,hP,List.map_append];rfl
   simp only[e];rw[List.getElem_append_left (by simpa using hjj),List.getElem_map]
  rw[e];have h1:=hid P0[jj] (List.getElem_mem hjj);show P0[jj].1≠id
  omega)
 have hW:=h.tree.fits.wf;have hsz:=fun x=>dY_ hW g.whole (by have:=g.len;omega) x
 cases hb:has X.m b with
 |false=>
  rw[bX_ hb];refine(ku_ X.T X.m X.pos S id (-1) (j:Nat) 6 P0.length W h.tree h.set g.small hfi (mM_ h _) (by decide)).mono ?_;rintro e W' ⟨rfl,hbb⟩;exact⟨6,S,P,rfl,Frame.of hbb,h.below hbb,rfl⟩
 |true=>
  rw[da_ hb];have hjj:=hj hb;refine(lO_ X.T X.m X.pos S id P0.length (b,j) (a,i) W h.tree h.set g.small hfi hlt hb hjj (by have:=hsz b;show j<=_;omega) hha hi (by have:=hsz a;show i<=_;omega) (by rw[hat hlt];rfl) (by rw[hat hlt];rfl)).mono ?_;rintro e W' ⟨rfl,hf,hs⟩;have e1:S.rs.modify P0.length (cN_ X.m (b,j) (a,i) (hd X.T X.pos (b,j).1) ((b,j).2:Nat))=(P0++[(id,if (b7_ X.m (b,j) (a,i)).2≠0\/(b7_ X.m (b,j) (a,i)).1=(-1) then(b,j) else(a,i),(b,j))]).map (mkR X.T X.pos):=by
   refine List.ext_getElem (by simp[hl]) fun u h1 h2=>?_;rw[List.getElem_modify]
   by_cases eu:P0.length=u
   ·subst eu
    rw[if_pos rfl,hat,nZ_];simp
   rw[if_neg eu];have hu:u<P0.length:=by simp[hl]at h1;omega
   simp only[h.rs,hP,List.map_append];rw[List.getElem_append_left (by simpa using hu),List.getElem_append_left (by simpa using hu)]
  refine⟨0,_,_,rfl,hf,h.put hf hs h.sl e1 h.its ?_ h.ins ?_ h.iid ?_ h.iub ?_,rfl⟩
  ·intro x hx
   rcases List.mem_append.1 hx with hx|hx
   ·exact h.pts x (by rw[hP];exact List.mem_append_left _ hx)
   rw[List.mem_singleton.1 hx];exact kG_ hW hha hb hi hjj
  ·have e:=h.rid
   rw[hP,List.map_append]at e;rw[List.map_append];exact e
  ·intro x hx
   rcases List.mem_append.1 hx with hx|hx
   ·exact h.rub x (by rw[hP];exact List.mem_append_left _ hx)
   rw[List.mem_singleton.1 hx];exact h.rub (id,(a,i),(a,i)) (by rw[hP];exact List.mem_append_right _ List.mem_cons_self)
  have e:=h.num;rw[hP,List.length_append]at e;rw[List.length_append];exact e
theorem StT.iterate(h:StT w W X S P I n)(g:hJ_ X k)(hn:n<=100)(a:Nat) :
  Calls Tryz.prog 28 #[.pointer (some ⟨S.sb,0,none⟩),.pointer (some ⟨X.T.tb,0,none⟩),.int .i64 (hv1 X.T X.pos X.m a)] W fun e W'=>∃id o S' I',e=.returned (.tuple #[.int .i64 id,.int .i64 o])/\H.Frame S.foot W W'/\StT w W' X S' P I' (n+1)/\S'.sb=S.sb ∧
   (o=0->∃I0 b,I'=I0++[b]/\b.1=id/\∀x∈I0,x.1<id):=by
 have hnum:=h.num
 cases ha:has X.m a with
 |false=>
  rw[bX_ ha];refine(jj_ X.T X.m X.pos S (-1) W h.tree.mem (by omega) (by omega) (cm_ h.tree.fits 0)).mono ?_;rintro e W' ⟨rfl,hb⟩;exact⟨0,6,S,I,rfl,Frame.of hb,(h.below hb).more,rfl,fun h0=>by cases h0⟩
 |true=>
  have hl:S.its.length=I.length:=by rw[h.its,List.length_map]
  rw[da_ ha];refine(kR_ X.T X.m X.pos S a W h.tree h.set ha (g.attrs a) (by omega) (by omega)).mono ?_;rintro e W' ⟨v,rfl,hf,hs,hv⟩;have hid:∀x∈I,x.1<S.last+1:=fun x hx=>by have:=h.iub x hx;omega
  refine⟨S.last+1,0,_,I++[(S.last+1,a,a,true)],rfl,hf,h.put hf hs ?_ h.rs ?_ h.pts ?_ h.rid ?_ ?_ ?_ ?_,rfl,fun _=>⟨I,_,rfl,rfl,hid⟩⟩
  ·rintro b (e|e|e)
   ·exact h.sl b (Or.inl e)
   ·exact h.sl b (Or.inr (Or.inl e))
   rcases hv b e with e|e
   ·exact h.sl b (Or.inr (Or.inr e))
   exact Nat.le_trans h.bel.size e
  ·show S.its++[_]=_
   rw[h.its,List.map_append];rfl
  ·intro x hx
   rcases List.mem_append.1 hx with hx|hx
   ·exact h.ins x hx
   obtain rfl:x=(S.last+1,a,a,true):=by simpa using hx
   exact⟨ha,ha,h.tree.fits.wf.contains_self a⟩
  ·rw[List.map_append]
   exact ko_ h.iid (fun x hx=>by obtain⟨y,hy,rfl⟩:=List.mem_map.1 hx;exact hid y hy) (by show 0<S.last+1;omega)
  ·intro x hx
   show x.1<=S.last+1;have:=h.rub x hx;omega
  ·intro x hx
   show x.1<=S.last+1
   rcases List.mem_append.1 hx with hx|hx
   ·have:=h.iub x hx;omega
   obtain rfl:x=(S.last+1,a,a,true):=by simpa using hx
   exact Int.le_refl _
  refine⟨by omega,by rw[List.length_append];show I.length+1<=_;omega,by show 0<=S.last+1;omega,by show S.last+1<=_;omega⟩
theorem StT.next(h:StT w W X S P I n)(g:hJ_ X k){id:Int}{I0:List Itr}{b:Itr}(hI:I=I0++[b])(hb:b.1=id)(hid:∀x∈I0,x.1<id) :
  Calls Tryz.prog 29 #[.pointer (some ⟨S.sb,0,none⟩),.pointer (some ⟨X.T.tb,0,none⟩),.int .i64 id] W fun e W'=>∃z o S' b',e=.returned (.tuple #[.int .i64 z,.int .i64 o])/\H.Frame S.foot W W'/\StT w W' X S' P (I0++[b']) n/\S'.sb=S.sb/\b'.1=id:=by
 have hmap:S.its=I0.map (mkI X.T X.pos)++[mkI X.T X.pos b]:=by rw[h.its,hI,List.map_append];rfl
 have hlt:I0.length<S.its.length:=by rw[hmap];simp
 have hat:∀hh,S.its[I0.length]'hh=mkI X.T X.pos b:=fun hh=>by
  simp only[hmap];rw[List.getElem_append_right (by simp)];simp
 have hfi:gH_ S.its id=some I0.length:=kb_ hlt (by rw[hat hlt];exact hb) (fun jj hjj=>by
  have e:S.its[jj]'(by omega)=mkI X.T X.pos (I0[jj]):=by
   simp only[hmap];rw[List.getElem_append_left (by simpa using hjj),List.getElem_map]
  rw[e];have h1:=hid I0[jj] (List.getElem_mem hjj);show I0[jj].1≠id
  omega)
 have hg:=h.ins b (by rw[hI];exact List.mem_append_right _ List.mem_cons_self);refine(next_ X.T X.m X.pos S id I0.length b.2.1 b.2.2.1 W h.tree h.set hfi hlt (by rw[hat hlt];rfl) (by rw[hat hlt];rfl) b.2.2.2 (by rw[hat hlt];rfl) hg.1 ⟨hg.2.1,hg.2.2⟩ g.attrs).mono ?_;rintro e W' ⟨z,f,rfl,hf,hs,hx⟩;obtain⟨b',e1,e2,e3⟩:∃b':Itr,f (mkI X.T X.pos b)=mkI X.T X.pos b'/\b'.1=id/\hg_ X.m b'.2.1 b'.2.2.1:=by
  rcases hx with rfl|hx|⟨x,rfl,hx⟩
  ·exact⟨(b.1,b.2.1,b.2.2.1,false),rfl,hb,hg⟩
  ·exact⟨b,hx _,hb,hg⟩
  exact⟨(b.1,b.2.1,x,b.2.2.2),rfl,hb,hg.1,hx.1,hx.2⟩
 have em:S.its.modify I0.length f=(I0++[b']).map (mkI X.T X.pos):=by
  refine List.ext_getElem (by simp[hmap]) fun u h1 h2=>?_;rw[List.getElem_modify]
  by_cases eu:I0.length=u
  ·subst eu
   rw[if_pos rfl,hat,e1];simp
  rw[if_neg eu];have hu:u<I0.length:=by simp[hmap]at h1;omega
  simp only[hmap,List.map_append];rw[List.getElem_append_left (by simpa using hu),List.getElem_append_left (by simpa using hu)]
 have eid:(I0++[b']).map (·.1)=I.map (·.1):=by rw[hI,List.map_append,List.map_append];show _++[b'.1]=_++[b.1];rw[e2,hb]
 refine⟨z,0,_,b',rfl,hf,h.put hf hs h.sl h.rs em h.pts ?_ h.rid (by rw[eid];exact h.iid) h.rub ?_ ?_,rfl,e2⟩
 ·intro x hx
  rcases List.mem_append.1 hx with hx|hx
  ·exact h.ins x (by rw[hI];exact List.mem_append_left _ hx)
  rw[List.mem_singleton.1 hx];exact e3
 ·intro x hx
  rcases List.mem_append.1 hx with hx|hx
  ·exact h.iub x (by rw[hI];exact List.mem_append_left _ hx)
  rw[List.mem_singleton.1 hx,e2,<-hb];exact h.iub b (by rw[hI];exact List.mem_append_right _ List.mem_cons_self)
 have e:=h.num;rw[hI,List.length_append]at e;rw[List.length_append];exact e
end
end A
end
section
open Go.RowKit Go.Sort
namespace A
open H G R
structure MidT(w W:World)(X:Tw)(S:bh_)(P:List Rng)(I:List Itr)(n:Nat)(v:Value):Prop where
 tw:∃wd d,bu_ w W { X with wD:=wd,D:=d }
 set:an_ W S
 sl:∀k,S.foot k->w.heap.size<=k
 rs:S.rs=P.map (mkR X.T X.pos)
 its:S.its=I.map (mkI X.T X.pos)
 recs:∃(m:aa_) (rs:List Rec) (base:Nat),aD_ X.T X.pos base W v rs/\iM_ m X.m rs/\(∀x∈P,gt_ m x.2.1 x.2.2)/\(∀a∈I,hg_ m a.2.1 a.2.2.1)/\∀x∈P,x.2.1.2<=100000/\x.2.2.2<=100000
 rid:Asc (P.map (·.1))
 iid:Asc (I.map (·.1))
 rub:∀x∈P,x.1<=S.last
 iub:∀a∈I,a.1<=S.last
 num:P.length<=n/\I.length<=n/\0<=S.last/\S.last<=n
section
variable {w W W':World} {X:Tw} {S:bh_} {P:List Rng} {I:List Itr} {n k:Nat} {v:Value}
theorem MidT.blk(h:MidT w W X S P I n v):Blk X.tb #[.pointer (some ⟨X.T.tb,0,none⟩),.pointer (some ⟨X.M.mb,0,none⟩),X.hv] 41 W:=by obtain⟨_,_,t⟩:=h.tw;exact t.blk
theorem MidT.slice(h:MidT w W X S P I n v):∃ao len cap,v=.slice ao len cap:=by
 obtain⟨m,rs,base,hr,_⟩:=h.recs;obtain⟨ao,cap,e⟩:=hr.form;exact⟨ao,_,cap,e⟩
theorem StT.did(h:StT w W X S P I n)(g:hJ_ X k)(hk:k<150)(hl:X.m.length<200){o:G.Op}(hs:o.s.length<=40)(ht:o.t.length<=40)(hf:o.fits)(h9:o.kind % 10≠9)(hT:fz_ w) :
  Calls Tryz.prog 24 #[.pointer (some ⟨X.tb,0,none⟩),opV o] W fun e W'=>∃v b X',e=.returned (.tuple #[v,.bool b])/\MidT w W' X' S P I n v/\X'.tb=X.tb/\hJ_ X' (k+1):=by
 obtain⟨wd,d,t⟩:=h.tw;have A:=nI_ t.sim h9;have hW:WF X.m:=t.tree.fits.wf;have hwh:=g.whole;have hF:Fit w { X with wD:=W,D:=X.foot } o k:=⟨by show X.m.length<=_;omega,g.ok1,g.ok2,by omega,hs,ht,hf.2.1,hf.2.2,hf.1,hT,A.1,A.2⟩;refine(do_ w W { X with wD:=W,D:=X.foot } o k t.now hF).mono ?_;rintro e W' ⟨v,b,X',rfl,hX',hk',hb,hst,hp,hm,hM,hr,_⟩;have hm:X'.m=(G.step (some 64) X.m o).2.2:=hm;have hM:X'.M.m=(G.step none X.M.m o).2.2:=hM;have hkey:(X'.tb,X'.wD,X'.D)=(X.tb,W,X.foot):=hk';injection hkey with k1 k2
 injection k2 with k2 k3
 have hfr:=hX'.fr;rw[k2,k3]at hfr;have hsf:=kt_ hW hwh (by omega) (lim:=some 64) ht h9;have h120:(U.rep o.t).length<=120:=by have:=U.gW_ o.t;omega
 have hhd:∀i,has X.m i=true->hd X'.T X'.pos i=hd X.T X.pos i:=fun i hi=>by
  unfold hd;rw[hb,hst,hp i (aR_ hi)]
 have hsz:=fun i=>dY_ hW hwh (by omega) i;refine⟨v,b,X',rfl,⟨⟨X'.wD,X'.D,hX'⟩,h.set.frame hfr (fun k hk hx=>dm_ t h.set (Or.inl hx) hk),h.sl,?_,?_,⟨X.m,_,_,hr,by rw[hm];exact hsf,h.pts,h.ins,fun x hx=>?_⟩,h.rid,h.iid,h.rub,h.iub,h.num⟩,k1,⟨by rw[hm];exact jb_ g.ok1 h120,by rw[hM];exact jb_ g.ok2 h120,by rw[hm];have:=jI_ hW (some 64) o;omega,by omega⟩⟩
 ·rw[h.rs]
  refine List.map_congr_left fun x hx=>?_;have h1:=(h.pts x hx).1;unfold mkR;rw[hhd _ h1.1,hhd _ h1.2]
 ·rw[h.its]
  refine List.map_congr_left fun x hx=>?_;have h1:=h.ins x hx;unfold mkI;rw[hhd _ h1.1,hhd _ h1.2.1]
 have h1:=(h.pts x hx).2.1;have h2:=hsz x.2.1.1;have h3:=hsz x.2.2.1;omega
theorem MidT.update(h:MidT w W X S P I n v)(hn:n<=1000) :
  Calls Tryz.prog 25 #[.pointer (some ⟨S.sb,0,none⟩),.pointer (some ⟨X.T.tb,0,none⟩),v] W fun e W'=>e=.returned (.tuple #[])/\∃S' P' I',StT w W' X S' P' I' n/\S'.sb=S.sb:=by
 obtain⟨wd,d,t⟩:=h.tw;obtain⟨m,rs,base,hr,F,hp,hi,hsm⟩:=h.recs;refine(nB_ X.T X.m X.pos S P I base v rs W t.tree h.set hr h.its h.rs F.rcs F.prv (by have:=F.few;omega) (fun x hx=>?_) (fun a ha=>?_)).mono ?_
 ·have h1:=(hp x hx).1
  have h2:=hsm x hx;exact⟨F.keep _ h1.1,F.keep _ h1.2,by omega,by omega⟩
 ·have h1:=hi a ha
  exact⟨F.keep _ h1.1,F.keep _ h1.2.1⟩
 rintro e W' ⟨rfl,J,hf,hs,hJ,_⟩;have hids:(P.map (dy_ X.m rs)).map (·.1)=P.map (·.1):=by rw[List.map_map];rfl
 have hJid:J.map (·.1)=I.map (·.1):=by
  refine List.ext_getElem (by simp[hJ.1]) fun u h1 h2=>?_;rw[List.getElem_map,List.getElem_map];simp only[List.length_map]at h1 h2;exact(hJ.2 u I[u] J[u] (List.getElem?_eq_getElem h2) (List.getElem?_eq_getElem h1)).1
 refine⟨rfl,_,_,J,⟨⟨_,_,t.frame h.set hf h.sl⟩,hs,h.sl,rfl,rfl,?_,?_,by rw[hids];exact h.rid,by rw[hJid];exact h.iid,?_,?_,by rw[List.length_map,<-hJ.1];exact h.num⟩,rfl⟩
 ·intro x hx
  obtain⟨y,hy,rfl⟩:=List.mem_map.1 hx;exact F.rg _ _ (hp y hy)
 ·intro a ha
  obtain⟨u,hu,rfl⟩:=List.getElem_of_mem ha;have hu2:u<I.length:=by rw[hJ.1];exact hu
  obtain⟨e1,e2,e3⟩:=hJ.2 u I[u] J[u] (List.getElem?_eq_getElem hu2) (List.getElem?_eq_getElem hu);have h1:=F.it _ _ _ (hi I[u] (List.getElem_mem hu2)) e3;rw[e2];exact h1
 ·intro x hx
  obtain⟨y,hy,rfl⟩:=List.mem_map.1 hx;exact h.rub y hy
 intro a ha;have:a.1∈J.map (·.1):=List.mem_map_of_mem ha;rw[hJid]at this;obtain⟨b,hb,e⟩:=List.mem_map.1 this;rw[<-e];exact h.iub b hb
end
end A
end
section
open Go.RowKit Go.Sort
namespace A
open H G R
theorem StT.point{w W:World}{X:Tw}{S:bh_}{P:List Rng}{I:List Itr}{n k:Nat}(h:StT w W X S P I n)(g:hJ_ X k)(hm:X.M.m=X.m)(p q:Nat)(hp:p<256)(hq:q<256) :
  Calls Tryz.prog 12 #[.pointer (some ⟨X.tb,0,none⟩),.agg #[.int .u8 p,.int .u8 q]] W fun e W'=>e=.returned (.tuple #[jP_ (cf_ X.m p) (eh_ X.m p q),be_ (hv1 X.T X.pos X.m (cf_ X.m p)) (eh_ X.m p q:Nat)])/\StT w W' X S P I n/\Below W.heap.size W W':=by
 obtain⟨wd,d,t⟩:=h.tw;refine(point_ w W { X with wD:=wd,D:=d } p q t hm g.whole (by have:=g.len;show X.m.length<=_;omega) hp hq).mono ?_;rintro e W' ⟨h1,h2⟩;exact⟨h1,h.below h2,h2⟩
theorem StT.hv{w W:World}{X:Tw}{S:bh_}{P:List Rng}{I:List Itr}{n:Nat}(h:StT w W X S P I n):∃g cap,X.hv=.slice (some ⟨g,0,none⟩) X.m.length cap:=by
 obtain⟨wd,d,t⟩:=h.tw;obtain⟨g,cap,e,_⟩:=t.toMid.cells t.pos_len;exact⟨g,cap,e⟩
theorem hJ_.more{X:Tw}{k:Nat}(g:hJ_ X k)(h:k+1<=150):hJ_ X (k+1):=⟨fun j=>(g.ok1 j).more,fun j=>(g.ok2 j).more,g.len,h⟩
theorem nj_:Asc []:=fun i hi=>by cases hi
theorem st_new{w w4:World}{X:Tw}(h:bu_ w w4 X):StT w (w4.alloc (.cells #[.slice none 0 0,.slice none 0 0,.int .i64 0] 50)) X (bh_.zero w4.heap.size) [] [] 0:=
 ⟨⟨X.wD,X.D,h.below ((Below.refl w4.heap.size w4).alloc (nl_) _)⟩,an_.new w4,fun k hk=>Nat.le_trans h.bel.size (bh_.zero_foot hk),rfl,rfl,(fun x hx=>by cases hx),(fun x hx=>by cases hx),nj_,nj_,(fun x hx=>by cases hx),(fun x hx=>by cases hx),⟨nl_,nl_,Int.le_refl _,Int.le_refl _⟩⟩
theorem Stays(os ps:List G.Op)(l:List (Nat×Nat))(v v2 v3:Value)(w:World)(h:fA_ w v os)(hl:os.length<=9223372036854775807)(hf:∀o,o∈os->o.fits)(h2:ey_ w v2 l)(hl2:l.length<=9223372036854775807)(hf2:∀q,q∈l->q.1<256/\q.2<256)(h3:fA_ w v3 ps)(hl3:ps.length<=9223372036854775807)(hf3:∀o,o∈ps->o.fits)(ht:fz_ w) :
  Calls Tryz.prog 7 #[v,v2,v3] w fun e w'=>e=.returned (.bool true)/\Below w.heap.size w w':=by
 obtain⟨ao2,cap2,hv2,_⟩:=id h2;subst hv2;obtain⟨ao3,cap3,hv3,_⟩:=id h3;subst hv3;have QA:=hi_ (fun W=>awake9 W);have QF:=hi_ (fun W (hW:Below w.heap.size w W)=>few_ os v W (h.below hW) hl);have QF3:=hi_ (fun W (hW:Below w.heap.size w W)=>few_ ps _ W (h3.below hW) hl3);have QS:=hi_ (fun W (hW:Below w.heap.size w W) (hfw:few os=true)=>start_ os v W (h.below hW) hfw hf (Go.Proofs.YtinphfpdfodkkaaGreatDoor.T.Tabs.below ht hW));have HSp:=hi_ (fun W (hW:Below w.heap.size w W)=>h2.below hW);have HOp3:=hi_ (fun W (hW:Below w.heap.size w W)=>h3.below hW);have HF2:=hi_ hf2;have HF3:=hi_ hf3;have HTb:=hi_ (fun W (hW:Below w.heap.size w W)=>(Go.Proofs.YtinphfpdfodkkaaGreatDoor.T.Tabs.below ht hW:fz_ W));clear h h2 h3 hf hf2 hf3 ht
 go_enter Tryz.func7,Tryz.ntmps7
 go_wp2_with fail
 refine(QA.o _).mono ?_;rintro e w2 ⟨rfl,hb2⟩;have HB2:=hi_ hb2;clear hb2;have QFw:=hi_ (QF.o w2 HB2.o);have QFw3:=hi_ (QF3.o w2 HB2.o);generalize hfw:few os=fw at *;have HFw2:=hi_ hfw;generalize hfw3:few ps=fw3 at *;have HFw3:=hi_ hfw3;clear hfw hfw3;go_wp2_with fail
 refine QFw.o.mono ?_;rintro e w3 ⟨rfl,rfl⟩
 cases fw with
 |false=>
  go_wp2_with fail
  refine(QA.o _).mono ?_;rintro e w4 ⟨rfl,hb4⟩;have HB4:=bt_ HB2 hb4;clear hb4;go_wp2_with fail
  go_ret
  exact⟨rfl,HB4.o⟩
 |true=>
  go_wp2_with fail
  refine QFw3.o.mono ?_;rintro e w3 ⟨rfl,rfl⟩
  cases fw3 with
  |false=>
   go_wp2_with fail
   refine(QA.o _).mono ?_;rintro e w4 ⟨rfl,hb4⟩;have HB4:=bt_ HB2 hb4;clear hb4;go_wp2_with fail
   go_ret
   exact⟨rfl,HB4.o⟩
  |true=>
   by_cases hs4:l.length<=20
   case neg=>
    have s1:decide (((l.length:Nat):Int) > 20)=true:=decide_eq_true (by omega);have s2:(20:Int)<((l.length:Nat):Int):=by omega
    have s3:decide ((20:Int)<((l.length:Nat):Int))=true:=decide_eq_true s2;have s4:20<l.length:=by omega
    have s5:decide (20<l.length)=true:=decide_eq_true s4;go_wp2_with fail
    refine(QA.o _).mono ?_;rintro e w4 ⟨rfl,hb4⟩;have HB4:=bt_ HB2 hb4;clear hb4;go_wp2_with fail
    go_ret
    exact⟨rfl,HB4.o⟩
   have s1:decide (((l.length:Nat):Int) > 20)=false:=decide_eq_false (by omega);have s2:¬(20:Int)<((l.length:Nat):Int):=by omega
   have s3:decide ((20:Int)<((l.length:Nat):Int))=false:=decide_eq_false s2;have s4:¬20<l.length:=by omega
   have s5:decide (20<l.length)=false:=decide_eq_false s4;have QSt:=hi_ (QS.o w2 HB2.o (by first|trivial|rfl));go_wp2_with fail
   refine QSt.o.mono ?_;rintro e w4 ⟨X,rfl,hX,hG⟩;have HX:=hi_ hX;have HG:=hi_ (k7_ hG);have HMm:=hi_ hG.mm;have HT5:=hi_ (st_new hX);have HTb2:=hi_ (HTb.o w2 HB2.o);clear hX hG QSt QS QFw QFw3 QF QF3 s1 s2 s3 s4 s5;go_upto_region 5 with fail
   generalize w4.alloc (.cells #[.slice none 0 0,.slice none 0 0,.int .i64 0] 50)=w5 at *;go_wp2_with fail
   go_loopw [9] (fun v9 wr=>∃(i:Nat) (S:bh_) (P:List Rng) (I:List Itr),v9=.int .i64 (i:Nat)/\i<=20/\Hd (S.sb=w4.heap.size)/\Hd (StT w2 wr X S P I i)) (fun v9 _=>22-(Go.RowKit.intOf v9).toNat)
   case atStart=>exact⟨0,bh_.zero w4.heap.size,[],[],rfl,by omega,hi_ rfl,HT5⟩
   obtain⟨i,S,P,I,rfl,hi,HSb,HT⟩:=hrel
   by_cases hil:i+1<l.length
   ·have hiI:(i:Int)+1<(l.length:Int):=by omega
    have hi0:(0:Int)<=(i:Int):=by omega
    have hi1:(i:Int)<(l.length:Int):=by omega
    have hi01:(0:Int)<=(i:Int)+1:=by omega
    have wi:IntKind.i64.wrap ((i:Int)+1)=(i:Int)+1:=IntWalk.i64_in _ (by omega);have wi2:IntKind.i64.wrap ((i:Int)+2)=(i:Int)+2:=IntWalk.i64_in _ (by omega);have HSr:=hi_ (HSp.o wr (HB2.o.trans (HT.o.bel.mono HB2.o.size)));obtain⟨b,off,eao,hlt,hc⟩:=HSr.o.at (by omega);subst eao;have c0:=(hc i (by omega)).1;have c1:=(hc i (by omega)).2;obtain⟨p1,hp1⟩:∃p1,p1=l[i].1:=⟨_,rfl⟩;obtain⟨q1,hq1⟩:∃q1,q1=l[i].2:=⟨_,rfl⟩;obtain⟨p2,hp2⟩:∃p2,p2=l[i+1].1:=⟨_,rfl⟩;obtain⟨q2,hq2⟩:∃q2,q2=l[i+1].2:=⟨_,rfl⟩;have HQ1:Hd (l[i].2=q1):=hi_ hq1.symm;have HQ2:Hd (l[i+1].1=p2/\l[i+1].2=q2):=hi_ ⟨hp2.symm,hq2.symm⟩;have hb1:=HF2.o l[i] (List.getElem_mem _);have hb2:=HF2.o l[i+1] (List.getElem_mem _);rw[<-hp1,<-hq1]at hb1;rw[<-hp2,<-hq2]at hb2;rw[<-hp1]at c0;rw[<-hq1]at c1
    have HBd:=hi_ (⟨hb1,hb2⟩:_/\_);clear hp1 hq1 hp2 hq2 hb1 hb2 hc;have QP1:=hi_ (HT.o.point HG.o HMm.o p1 q1 HBd.o.1.1 HBd.o.1.2);unfold jP_ be_ at QP1;go_wp2_with fail
    refine QP1.o.mono ?_;rintro e w6 ⟨rfl,hT6,hb6⟩;have HT6:=hi_ hT6;clear hT6 hb6 QP1 HT c0 c1 hlt HSr;go_upto_region 9 with fail
    obtain⟨hbp,hpA,hpB⟩:=lB_ w6 (cf_ X.m p1) (eh_ X.m p1 q1) (hv1 X.T X.pos X.m (cf_ X.m p1));have HT7:=hi_ (HT6.o.below hbp);have HP7:=hi_ hpB;clear hbp hpA hpB HT6;generalize (w6.alloc (.cells #[.int .i64 (cf_ X.m p1:Nat),.int .i64 (eh_ X.m p1 q1:Nat)] 30)).alloc (.cells #[.int .i64 (hv1 X.T X.pos X.m (cf_ X.m p1)),.int .i64 (eh_ X.m p1 q1:Nat)] 31)=w7 at *;have HSr:=hi_ (HSp.o w7 (HB2.o.trans (HT7.o.bel.mono HB2.o.size)));obtain⟨b',off',eao,hlt,hc⟩:=HSr.o.at (by omega);injection eao with eao
    injection eao with eb eo
    subst eb eo;have c0:=(hc (i+1) (by omega)).1;have c1:=(hc (i+1) (by omega)).2;rw[HQ2.o.1]at c0;rw[HQ2.o.2]at c1;have QP2:=hi_ (HT7.o.point HG.o HMm.o p2 q2 HBd.o.2.1 HBd.o.2.2);unfold jP_ be_ at QP2;clear hc;go_wp2_with fail
    refine QP2.o.mono ?_;rintro e w8 ⟨rfl,hT8,hb8⟩;have HT8:=hi_ hT8;have HP8:=hi_ (HP7.o.below hb8);clear hT8 hb8 QP2 HT7 HP7 c0 c1 hlt HSr;go_upto_region 10 with fail
    obtain⟨hbp,hpA,hpB⟩:=lB_ w8 (cf_ X.m p2) (eh_ X.m p2 q2) (hv1 X.T X.pos X.m (cf_ X.m p2));have HT9:=hi_ (HT8.o.below hbp);have HP9:=hi_ (HP8.o.below hbp);have HR9:=hi_ hpB;clear hbp hpA hpB HT8 HP8;generalize (w8.alloc (.cells #[.int .i64 (cf_ X.m p2:Nat),.int .i64 (eh_ X.m p2 q2:Nat)] 30)).alloc (.cells #[.int .i64 (hv1 X.T X.pos X.m (cf_ X.m p2)),.int .i64 (eh_ X.m p2 q2:Nat)] 31)=w9 at *;have QC:=hi_ (fun W (hT:StT w2 W X S P I i)=>hT.create HG.o (by omega) (cf_ X.m p1) (eh_ X.m p1 q1) (fun hh=>iU_ hh));rw[HSb.o]at QC;unfold be_ at QC;obtain⟨x0,x1,x2,xl⟩:=cells3 HT9.o.blk;obtain⟨u0,u1,U0,U1⟩:=mq_ HP9.o;have D0:=lc_ x0 xl;refine ao_ 5 _ _ (by kernel_rfl) (by kernel_rfl) rfl ?_;simp only[List.take_succ_cons,List.take_zero]
    repeat (go_big_quiet_step (fail))
    refine wq_ (fun dq=>?_);have HT10:=hi_ (HT9.o.below dq.h);have HP10:=hi_ (HP9.o.below dq.h);have HR10:=hi_ (HR9.o.below dq.h);clear D0 U0 U1 u0 u1 x0 x1 x2 xl HT9 HP9 HR9;generalize dq.w=w10 at *;clear dq;intro KK hK;go_simp
    refine(QC.o w10 HT10.o).mono ?_;rintro e w11 ⟨id1,o1,S12,P12,rfl,hf11,hT11,hsb11,hx11⟩;have HT11:=hi_ hT11;have HP11:=hi_ (HP10.o.frame hf11 (cl_ HT10.o.set HP10.o (by decide)));have HR11:=hi_ (HR10.o.frame hf11 (cl_ HT10.o.set HR10.o (by decide)));have HS11:=hi_ hsb11;have HX11:=hi_ hx11;clear hf11 hT11 hsb11 hx11 QC HT10 HP10 HR10 HSb
    (try go_simp)
    refine hK _ _ (as_ ?_);clear hK KK;repeat (go_big_quiet_step (fail))
    refine wq_ (fun dq=>?_);have HT12:=hi_ (HT11.o.below dq.h);have HP12:=hi_ (HP11.o.below dq.h);have HR12:=hi_ (HR11.o.below dq.h);clear HT11 HP11 HR11;generalize dq.w=w12 at *;clear dq
    by_cases ho1:o1=0
    focus (
     obtain⟨hha,P0,hP0,hid0⟩:=HX11.o ho1;have HIp:=hi_ (⟨hha,hP0,hid0⟩:_/\_/\_);clear hha hP0 hid0;subst ho1;have QE:=hi_ (fun W (hT:StT w2 W X S12 P12 I (i+1))=>hT.setEnd HG.o (b:=cf_ X.m p2) (j:=eh_ X.m p2 q2) HIp.o.1 (iU_ HIp.o.1) (fun hh=>iU_ hh) HIp.o.2.1 HIp.o.2.2);rw[HS11.o]at QE;unfold be_ at QE;go_upto_region 12 with fail
     obtain⟨x0,x1,x2,xl⟩:=cells3 HT12.o.blk;obtain⟨u0,u1,U0,U1⟩:=mq_ HR12.o;have D0:=lc_ x0 xl;refine ao_ 6 _ _ (by kernel_rfl) (by kernel_rfl) rfl ?_;simp only[List.take_succ_cons,List.take_zero];repeat (go_big_quiet_step (fail))
     refine wq_ (fun dq=>?_);have HT13:=hi_ (HT12.o.below dq.h);have HP13:=hi_ (HP12.o.below dq.h);clear D0 U0 U1 u0 u1 x0 x1 x2 xl HT12 HP12 HR12;generalize dq.w=w13 at *;clear dq;intro KK hK;go_simp
     refine(QE.o w13 HT13.o).mono ?_;rintro e w14 ⟨o9,S12,P12,rfl,hf14,hT14,hsb14⟩;have HT14:=hi_ hT14;have HP14:=hi_ (HP13.o.frame hf14 (cl_ HT13.o.set HP13.o (by decide)));have HSbT:=hi_ hsb14;clear hf14 hT14 hsb14 QE HT13 HP13 HS11 HX11
     (try go_simp)
     refine hK _ _ (as_ ?_);clear hK KK;repeat (go_big_quiet_step (fail))
     refine wq_ (fun dq=>?_);have HT12:=hi_ (HT14.o.below dq.h);have HP12:=hi_ (HP14.o.below dq.h);clear HT14 HP14;generalize dq.w=w12 at *;clear dq)
    rotate_left
    focus (
     have z1:(o1==0)=false:=bn_ ho1;have HSbT:=HS11;clear HX11 HR12)
    all_goals (
     have QI:=hi_ (fun W (hT:StT w2 W X S12 P12 I (i+1))=>hT.iterate HG.o (by omega) (cf_ X.m p1));obtain⟨x0,x1,x2,xl⟩:=cells3 HT12.o.blk;obtain⟨u0,u1,U0,U1⟩:=mq_ HP12.o;have D0:=lc_ x0 xl;rw[HSbT.o]at QI;go_upto_region 13 with fail
     refine ao_ 6 _ _ (by kernel_rfl) (by kernel_rfl) rfl ?_;simp only[List.take_succ_cons,List.take_zero];repeat (go_big_quiet_step (fail))
     refine wq_ (fun dq=>?_);have HT13:=hi_ (HT12.o.below dq.h);clear D0 U0 U1 u0 u1 x0 x1 x2 xl HT12 HP12;generalize dq.w=w13 at *;clear dq;intro KK hK;go_simp
     refine(QI.o w13 HT13.o).mono ?_;rintro e w14 ⟨kid,o2,S14,I14,rfl,hf14,hT14,hsb14,hx14⟩;have HT14:=hi_ hT14;have HSc:=hi_ hsb14;have HX14:=hi_ hx14;clear hf14 hT14 hsb14 hx14 QI HT13
     (try go_simp)
     refine hK _ _ (as_ ?_);clear hK KK;repeat (go_big_quiet_step (fail))
     refine wq_ (fun dq=>?_);have HT15:Hd (StT w2 _ X S14 P12 I14 (i+2)):=hi_ (HT14.o.below dq.h);clear HT14;generalize dq.w=w15 at *;clear dq;go_wp2_with fail
     go_loopw [18] (fun v18 wr=>∃(nn:Nat) (S':bh_) (I':List Itr),v18=.int .i64 (nn:Nat)/\nn<=5/\Hd (S'.sb=w4.heap.size)/\Hd (StT w2 wr X S' P12 I' (i+2))/\Hd (o2=0->∃I0 b,I'=I0++[b]/\b.1=kid/\∀x∈I0,x.1<kid)) (fun v18 _=>5-(Go.RowKit.intOf v18).toNat)
     case atStart=>exact⟨0,S14,I14,rfl,by omega,HSc,HT15,HX14⟩
     case round=>
      obtain⟨nn,S',I',rfl,hnn,HSb',HT',HX'⟩:=hrel;have HSp':=hi_ (HSp.o wr (HB2.o.trans (HT'.o.bel.mono HB2.o.size)));obtain⟨b',off',eao,hlt',hcc⟩:=HSp'.o.at (by omega);injection eao with eao
      injection eao with eb eo
      subst eb eo;have c1:=(hcc i (by omega)).2;rw[HQ1.o]at c1;have w5m:Int.tmod ((q1:Nat):Int) 5=((q1 % 5:Nat):Int):=(Int.ofNat_tmod _ _).symm;have hq5:q1 % 5<5:=Nat.mod_lt _ (by omega);have HW5:Hd (IntKind.i64.wrap (((q1 % 5:Nat)):Int)=((q1 % 5:Nat):Int)):=hi_ (IntWalk.i64_in _ (by omega));clear hcc
      by_cases ho2:o2=0
      ·obtain⟨I0,b,hI',hb,hid⟩:=HX'.o ho2
       have HIb:=hi_ (⟨hI',hb,hid⟩:_/\_/\_);clear hI' hb hid;subst ho2;have wn:IntKind.i64.wrap ((nn:Int)+1)=(nn:Int)+1:=IntWalk.i64_in _ (by omega)
       by_cases hlt5:nn<q1 % 5
       ·have QN:=hi_ (HT'.o.next HG.o HIb.o.1 HIb.o.2.1 HIb.o.2.2)
        rw[HSb'.o]at QN;have hlz:=hlt5;generalize q1 % 5=qz at *;have w51:=HW5.o;have e1:((nn:Nat):Int)<((qz:Nat):Int):=by omega
        have e2:decide (((nn:Nat):Int)<((qz:Nat):Int))=true:=decide_eq_true e1;have e3:decide (nn<qz)=true:=decide_eq_true hlt5;obtain⟨x0,x1,x2,xl⟩:=cells3 HT'.o.blk;go_wp2_with fail
        refine QN.o.mono ?_;rintro e w20 ⟨z,o3,S20,b20,rfl,hf20,hT20,hsb20,hb20⟩;have HT20:=hi_ hT20;have HS20:=hi_ hsb20;have HXn:Hd ((0:Int)=0->∃I1 b1,I0++[b20]=I1++[b1]/\b1.1=kid/\∀x∈I1,x.1<kid):=hi_ (fun _=>⟨I0,b20,rfl,hb20,HIb.o.2.2⟩);clear hf20 hT20 hsb20 hb20 QN HT' HX' x0 x1 x2 xl c1 hlt';go_wp2_with fail
        refine⟨⟨nn+1,S20,I0++[b20],by push_cast;rfl,by omega,HS20,HT20,HXn⟩,?_⟩;show 5-((nn:Int)+1).toNat<5-((nn:Int)).toNat;omega
       generalize q1 % 5=qz at *;have w51:=HW5.o;have e1:¬((nn:Nat):Int)<((qz:Nat):Int):=by omega
       have e2:decide (((nn:Nat):Int)<((qz:Nat):Int))=false:=decide_eq_false e1;have e3:decide (nn<qz)=false:=decide_eq_false hlt5;go_wp2_with fail
       refine⟨⟨i+2,S',P12,I',by push_cast;rfl,by omega,HSb',HT'⟩,?_⟩;show 22-((i:Int)+2).toNat<22-((i:Int)).toNat;omega
      have z1:(o2==0)=false:=bn_ ho2;go_wp2_with fail
      refine⟨⟨i+2,S',P12,I',by push_cast;rfl,by omega,HSb',HT'⟩,?_⟩;show 22-((i:Int)+2).toNat<22-((i:Int)).toNat;omega
     )
   have hiI:¬(i:Int)+1<(l.length:Int):=by omega
   have wi:IntKind.i64.wrap ((i:Int)+1)=(i:Int)+1:=IntWalk.i64_in _ (by omega);have hfewA:ps.all iQ_=true/\ps.length<=60:=by
    have h1:=HFw3.o;unfold few at h1;rw[Bool.and_eq_true,decide_eq_true_eq]at h1;exact h1
   have HOk:=hi_ (List.all_eq_true.1 hfewA.1);have hlen3:=hfewA.2;clear hfewA;go_wp2_with fail
   go_loopw [19] (fun v19 wr=>∃(j:Nat) (X':Tw) (S':bh_) (P':List Rng) (I':List Itr),v19=.int .i64 (j:Nat)/\j<=ps.length/\Hd (X'.tb=X.tb)/\Hd (S'.sb=w4.heap.size)/\Hd (StT w2 wr X' S' P' I' i)/\Hd (hJ_ X' (60+j))) (fun v19 _=>ps.length-(Go.RowKit.intOf v19).toNat)
   case atStart=>exact⟨0,X,S,P,I,rfl,Nat.zero_le _,hi_ rfl,HSb,HT,HG⟩
   obtain⟨j,X',S',P',I',rfl,hj,HXt,HSb',HT',HG'⟩:=hrel;have wj:IntKind.i64.wrap ((j:Int)+1)=(j:Int)+1:=IntWalk.i64_in _ (by omega)
   rcases Nat.lt_or_ge j ps.length with hlt|hge
   ·have hjI:(j:Int)<(ps.length:Int):=by omega
    have hj0:(0:Int)<=(j:Int):=by omega
    obtain⟨x0,x1,x2,xl⟩:=cells3 HT'.o.blk;obtain⟨gh,caph,hhv⟩:=HT'.o.hv;rw[hhv]at x2;rw[HXt.o]at x0 x1 x2 xl
    by_cases hsm:X'.m.length<200
    ·have s2:decide ((X'.m.length:Int)<200)=true:=decide_eq_true (by omega)
     have hsi:(X'.m.length:Int)<200:=by omega
     have s3:decide (X'.m.length<200)=true:=decide_eq_true hsm;have HRr:=hi_ (HOp3.o wr (HB2.o.trans (HT'.o.bel.mono HB2.o.size)));obtain⟨g,off,e1,hgl,hcc⟩:=HRr.o.at (by omega);subst e1;have k0:=hcc j hlt 0 (by omega);have k1:=hcc j hlt 1 (by omega);have k2:=hcc j hlt 2 (by omega);have k3:=hcc j hlt 3 (by omega);have k4:=hcc j hlt 4 (by omega);have k5:=hcc j hlt 5 (by omega);have k6:=hcc j hlt 6 (by omega);have k7:=hcc j hlt 7 (by omega);clear hcc;have hmem:ps[j]∈ps:=List.getElem_mem hlt;have ho40:=HOk.o _ hmem;have HFo:=hi_ (HF3.o _ hmem);generalize ps[j]=o at *;have HO4:Hd (o.s.length<=40/\o.t.length<=40):=hi_ (by
      unfold iQ_ at ho40
      rwa [Bool.and_eq_true,decide_eq_true_eq,decide_eq_true_eq]at ho40)
     have j0:wr.cell? ⟨g,off+j*8,none⟩=some (.int .u8 o.kind):=k0;have j1:wr.cell? ⟨g,off+j*8+1,none⟩=some (.int .u8 o.a):=k1;have j2:wr.cell? ⟨g,off+j*8+2,none⟩=some (.int .u8 o.b):=k2;have j3:wr.cell? ⟨g,off+j*8+3,none⟩=some (.int .u8 o.c):=k3;have j4:wr.cell? ⟨g,off+j*8+4,none⟩=some (.string ⟨o.s.toArray⟩):=k4;have j5:wr.cell? ⟨g,off+j*8+5,none⟩=some (.string ⟨o.t.toArray⟩):=k5;have j6:wr.cell? ⟨g,off+j*8+6,none⟩=some (.int .i8 o.n):=k6;have j7:wr.cell? ⟨g,off+j*8+7,none⟩=some (.int .i8 o.k):=k7;clear k0 k1 k2 k3 k4 k5 k6 k7 hmem ho40 HRr
     by_cases h9:o.kind % 10=9
     ·have ek:Int.tmod (o.kind:Int) 10=9:=by rw[show(10:Int)=((10:Nat):Int)from rfl,<-Int.ofNat_tmod,h9];rfl
      go_wp2_with fail
      refine⟨⟨j+1,X',S',P',I',by push_cast;rfl,by omega,HXt,HSb',HT',hi_ (HG'.o.more (by omega))⟩,?_⟩;show ps.length-((j:Int)+1).toNat<ps.length-((j:Int)).toNat;omega
     have ek:Int.tmod (o.kind:Int) 10=((o.kind % 10:Nat):Int):=by rw[show(10:Int)=((10:Nat):Int)from rfl,<-Int.ofNat_tmod]
     have QD:=hi_ (HT'.o.did HG'.o (by omega) hsm HO4.o.1 HO4.o.2 HFo.o h9 HTb2.o);rw[HXt.o]at QD;unfold opV at QD;have ez1:¬((o.kind % 10:Nat):Int)=9:=by omega
     have ez2:(((o.kind % 10:Nat):Int)==9)=false:=bn_ ez1;generalize o.kind % 10=kz at *;go_wp2_with fail
     refine QD.o.mono ?_;rintro e w15 ⟨v5,b5,X5,rfl,hM5,ht5,hG5⟩;obtain⟨ao5,len5,cap5,rfl⟩:=hM5.slice;have HG5:=hi_ hG5;have QU:=hi_ (hM5.update (by omega));rw[HSb'.o]at QU;obtain⟨y0,y1,y2,yl⟩:=cells3 hM5.blk;rw[ht5]at y0 y1 y2 yl;have HT5b:=hi_ ht5;clear hM5 ht5 hG5 QD x0 x1 x2 xl j0 j1 j2 j3 j4 j5 j6 j7 hgl HT' HG' hhv;go_wp2_with fail
     refine QU.o.mono ?_;rintro e w17 ⟨rfl,S7,P7,I7,hT7,hsb7⟩;have HT7:=hi_ hT7;have HS7:=hi_ hsb7;have QV:=hi_ (hT7.valid HG5.o);rw[HS7.o]at QV;clear hT7 hsb7 y0 y1 y2 yl QU;obtain⟨y0,y1,y2,yl⟩:=cells3 HT7.o.blk;rw[HT5b.o]at y0 y1 y2 yl;go_wp2_with fail
     refine QV.o.mono ?_;rintro e w18 ⟨rfl,hT8⟩;have HT8:=hi_ hT8;clear hT8 QV HT7 y0 y1 y2 yl;go_wp2_with fail
     refine⟨⟨j+1,X5,S7,P7,I7,by push_cast;rfl,by omega,HT5b,HS7,HT8,HG5⟩,?_⟩;show ps.length-((j:Int)+1).toNat<ps.length-((j:Int)).toNat;omega
    have s2:decide ((X'.m.length:Int)<200)=false:=decide_eq_false (by omega);have hsi:¬(X'.m.length:Int)<200:=by omega
    have s3:decide (X'.m.length<200)=false:=decide_eq_false hsm;have HWk:=hi_ (HB2.o.trans (HT'.o.bel.mono HB2.o.size));go_wp2_with fail
    go_ret
    exact⟨rfl,HWk.o⟩
   have hje:j=ps.length:=by omega
   subst hje;have hnot:¬((ps.length:Nat):Int)<((ps.length:Nat):Int):=by omega
   have HWk:=hi_ (HB2.o.trans (HT'.o.bel.mono HB2.o.size));go_wp2_with fail
   go_ret
   exact⟨rfl,HWk.o⟩
end A
end
end Go.Proofs.YtinphfpdfodkkaaGreatDoor
