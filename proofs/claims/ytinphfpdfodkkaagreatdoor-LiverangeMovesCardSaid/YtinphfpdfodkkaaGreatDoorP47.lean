/- Texts. -/
import Derived.Test.YtinphfpdfodkkaaGreatDoorP45
import Derived.Test.YtinphfpdfodkkaaGreatDoorP29
import Derived.Test.YtinphfpdfodkkaaGreatDoorP46
set_option linter.unusedVariables false
set_option linter.unusedSimpArgs false
set_option maxHeartbeats 8000000
set_option maxRecDepth 100000
namespace Go.Proofs.YtinphfpdfodkkaaGreatDoor
section
open Go.RowKit Go.Sort
namespace A
open H G R
theorem ca_{w:World}{S:bh_}(h:as_ w S){k:Nat}{cs:Array Value}{t:TypeId}(hb:Blk k cs t w)(ht:∀s∈eq_,s≠t):¬S.foot k:=fun hs=>by
 obtain⟨s,hs2,h2⟩:=h.typed hs;exact ht s hs2 (h2.eq ⟨cs,hb⟩)
structure Stg(w4 W:World)(S:bh_)(gA gP gB gQ:Nat)(a i b j:Nat)(za zb:Int):Prop where
 D:Below w4.heap.size w4 W
 S:as_ W S
 A:Blk gA #[.int .i64 a,.int .i64 i] 30 W
 P:Blk gP #[.int .i64 za,.int .i64 i] 31 W
 B:Blk gB #[.int .i64 b,.int .i64 j] 30 W
 Q:Blk gQ #[.int .i64 zb,.int .i64 j] 31 W
section
variable {w4 W W':World} {S S':bh_} {gA gP gB gQ a i b j:Nat} {za zb:Int}
theorem Stg.below(h:Stg w4 W S gA gP gB gQ a i b j za zb)(k:Below W.heap.size W W'):Stg w4 W' S gA gP gB gQ a i b j za zb:=
 ⟨h.D.trans (k.mono h.D.size),h.S.below k,h.A.below k,h.P.below k,h.B.below k,h.Q.below k⟩
theorem Stg.frame(h:Stg w4 W S gA gP gB gQ a i b j za zb)(f:H.Frame S.foot W W')(hs:as_ W' S')(hl:∀k,S.foot k->w4.heap.size<=k):Stg w4 W' S' gA gP gB gQ a i b j za zb:=
 ⟨h.D.trans (f.below hl h.D.size),hs,h.A.frame f (ca_ h.S h.A (by decide)),h.P.frame f (ca_ h.S h.P (by decide)),h.B.frame f (ca_ h.S h.B (by decide)),h.Q.frame f (ca_ h.S h.Q (by decide))⟩
theorem Stg.cells(h:Stg w4 W S gA gP gB gQ a i b j za zb){g:Nat}{t:TypeId}{u0 u1 u2:Value}(hX:Blk g #[u0,u1,u2] t W) :
  (W.cell? ⟨g,0,none⟩=some u0/\W.cell? ⟨g,1,none⟩=some u1/\(∀d:Later W.heap.size W,d.w.cell? ⟨g,0,none⟩=some u0)/\∀d:Later W.heap.size W,d.w.cell? ⟨g,1,none⟩=some u1) ∧
  (W.cell? ⟨gA,0,none⟩=some (.int .i64 a)/\W.cell? ⟨gA,1,none⟩=some (.int .i64 i)/\(∀d:Later W.heap.size W,d.w.cell? ⟨gA,0,none⟩=some (.int .i64 a))/\∀d:Later W.heap.size W,d.w.cell? ⟨gA,1,none⟩=some (.int .i64 i)) ∧
  (W.cell? ⟨gB,0,none⟩=some (.int .i64 b)/\W.cell? ⟨gB,1,none⟩=some (.int .i64 j)/\(∀d:Later W.heap.size W,d.w.cell? ⟨gB,0,none⟩=some (.int .i64 b))/\∀d:Later W.heap.size W,d.w.cell? ⟨gB,1,none⟩=some (.int .i64 j)) ∧
  (W.cell? ⟨gP,0,none⟩=some (.int .i64 za)/\W.cell? ⟨gP,1,none⟩=some (.int .i64 i)/\(∀d:Later W.heap.size W,d.w.cell? ⟨gP,0,none⟩=some (.int .i64 za))/\∀d:Later W.heap.size W,d.w.cell? ⟨gP,1,none⟩=some (.int .i64 i)) ∧
  (W.cell? ⟨gQ,0,none⟩=some (.int .i64 zb)/\W.cell? ⟨gQ,1,none⟩=some (.int .i64 j)/\(∀d:Later W.heap.size W,d.w.cell? ⟨gQ,0,none⟩=some (.int .i64 zb))/\∀d:Later W.heap.size W,d.w.cell? ⟨gQ,1,none⟩=some (.int .i64 j)) ∧
  (W.cell? ⟨S.sb,0,none⟩=some S.rv/\∀d:Later W.heap.size W,d.w.cell? ⟨S.sb,0,none⟩=some S.rv):=
 ⟨⟨(ad_ hX).1 0,(ad_ hX).1 1,fun d=>Later.cell ((ad_ hX).1 0) hX.lt d,fun d=>Later.cell ((ad_ hX).1 1) hX.lt d⟩,e7_ h.A,e7_ h.B,e7_ h.P,e7_ h.Q,(ad_ h.S.blk).1 0,fun d=>Later.cell ((ad_ h.S.blk).1 0) h.S.blk.lt d⟩
end
end A
end
section
open Go.RowKit Go.Sort
namespace A
open H G R
theorem end_le{T:am_}{m:aa_}{pos:Nat->Nat}{a b i j:Nat}(F:Fits T m pos)(ha:has m a=true)(hb:has m b=true)(ka:i<=G.sizeOf m a)(kb:j<=G.sizeOf m b)(ht:top m a=top m b)(hc:lcmp m (a,i) (b,j)<=0) :
  bJ_ m (b,j) (a,i) (hd T pos b) (j:Nat) ⟨1,hd T pos a,(i:Nat),hd T pos a,(i:Nat)⟩=⟨1,hd T pos a,(i:Nat),hd T pos b,(j:Nat)⟩:=by
 have hn:=g4_ F.wf (a:=(a,i)) (b:=(b,j)) ht
 rcases nd_ F ha hb ka kb ht.symm with⟨h,_⟩|⟨_,e1,e2,h⟩|⟨_,_,h⟩
 ·omega
 ·rw[h,e1,e2]
 ·exact h
end A
end
section
open Go.RowKit Go.Sort
namespace A
open H G R
section
variable {w w':World} {S:bh_} {g cap i:Nat}
theorem kW_(h:as_ w S)(hv:S.rv=.slice (some ⟨g,0,none⟩) S.rs.length cap)(hi:i<S.rs.length):ih_ w g (i*5+1) S.rs[i].sn S.rs[i].si/\ih_ w g (i*5+3) S.rs[i].en S.rs[i].ei:=by
 have hr:=h.rows;rw[hv]at hr;have c:=fun k (hk:k<5)=>ac_.cell av_ hr hi (k:=k) hk;have hl:=(ae_ hr).1;exact⟨⟨(c 1 (by omega)).1,(c 2 (by omega)).1,(c 1 (by omega)).2,(c 2 (by omega)).2,hl⟩,⟨(c 3 (by omega)).1,(c 4 (by omega)).1,(c 3 (by omega)).2,(c 4 (by omega)).2,hl⟩⟩
theorem iD_{f:Rg->Rg}{l:List Rg}{i:Nat}(hi:i<l.length)(h:f l[i]=l[i]):l.modify i f=l:=by
 refine List.ext_getElem (by rw[List.length_modify]) fun j h1 h2=>?_;rw[List.getElem_modify]
 split
 ·rename_i e;subst e;exact h
 ·rfl
theorem bh_.ext_rs{S:bh_}{l:List Rg}(h:l=S.rs):({ S with rs:=l }:bh_)=S:=by rw[h]
theorem foot_rv(hv:S.rv=.slice (some ⟨g,0,none⟩) S.rs.length cap):S.foot g:=Or.inr (Or.inl (by rw[hv];rfl))
theorem hE_(h:as_ w S)(hv:S.rv=.slice (some ⟨g,0,none⟩) S.rs.length cap)(hi:i<S.rs.length){c:Nat}(hc:c+1<5){f:Int->Int->Rg->Rg}{z k z' k':Int}(hM:en_ w w' g (i*5+c) z k z' k')
  (h0:f z k S.rs[i]=S.rs[i]) (h1:bb_ (f z k' S.rs[i])=(bb_ S.rs[i]).set (c+1) (.int .i64 k')) (h2:bb_ (f z' k S.rs[i])=(bb_ S.rs[i]).set c (.int .i64 z'))
  (h3:bb_ (f z' k' (f z' k S.rs[i]))=(bb_ (f z' k S.rs[i])).set (c+1) (.int .i64 k')) (h4:f z' k' (f z' k S.rs[i])=f z' k' S.rs[i]) :
  H.Frame S.foot w w'/\as_ w' { S with rs:=S.rs.modify i (f z' k') }:=by
 have hfo:S.foot g\/w.heap.size<=g:=Or.inl (foot_rv hv)
 rcases hM with⟨hb,rfl,rfl⟩|⟨d,hb,hd,rfl⟩|⟨d,hb,hd⟩
 ·exact⟨Frame.of hb,by rw[bh_.ext_rs (iD_ hi h0)];exact h.below hb⟩
 ·refine⟨(Frame.set (Frame.of hb) hfo _ _).below_ hd,as_.below ?_ hd⟩
  exact(h.below hb).put hv hi (k:=c+1) hc (.int .i64 k') (f z' k') h1
 ·refine⟨(Frame.set (Frame.set (Frame.of hb) hfo _ _) hfo _ _).below_ hd,as_.below ?_ hd⟩
  have p1:=(h.below hb).put hv hi (k:=c) (by omega) (.int .i64 z') (f z' k) h2;have hi1:i<(S.rs.modify i (f z' k)).length:=by rw[List.length_modify];exact hi
  have e1:(S.rs.modify i (f z' k))[i]=f z' k S.rs[i]:=List.getElem_modify_eq ..;have p2:=p1.put (i:=i) (by show S.rv=.slice _ (S.rs.modify i _).length cap;rw[List.length_modify];exact hv) hi1 (k:=c+1) hc (.int .i64 k') (f z' k') (by show bb_ (f z' k' (S.rs.modify i (f z' k))[i])=(bb_ (S.rs.modify i (f z' k))[i]).set _ _;rw[e1];exact h3);have e:(S.rs.modify i (f z' k)).modify i (f z' k')=S.rs.modify i (f z' k'):=by
   refine List.ext_getElem (by simp) fun j h1 h2=>?_;rw[List.getElem_modify,List.getElem_modify,List.getElem_modify]
   split
   ·rename_i e;subst e;exact h4
   ·rfl
  rw[show({ S with rs:=S.rs.modify i (f z' k') }:bh_)={ S with rs:=(S.rs.modify i (f z' k)).modify i (f z' k') } by rw[e]];exact p2
def putS(z k:Int)(x:Rg):Rg:=mN_ x z k
def putE(z k:Int)(x:Rg):Rg:=ci_ x z k
theorem iC_(h:as_ w S)(hv:S.rv=.slice (some ⟨g,0,none⟩) S.rs.length cap)(hi:i<S.rs.length){z k z' k':Int}(hz:S.rs[i].sn=z)(hk:S.rs[i].si=k)(hM:en_ w w' g (i*5+1) z k z' k') :
  H.Frame S.foot w w'/\as_ w' { S with rs:=S.rs.modify i (putS z' k') }:=by
 subst hz hk;exact hE_ h hv hi (c:=1) (f:=putS) (by omega) hM rfl rfl rfl rfl rfl
theorem ll_(h:as_ w S)(hv:S.rv=.slice (some ⟨g,0,none⟩) S.rs.length cap)(hi:i<S.rs.length){z k z' k':Int}(hz:S.rs[i].en=z)(hk:S.rs[i].ei=k)(hM:en_ w w' g (i*5+3) z k z' k') :
  H.Frame S.foot w w'/\as_ w' { S with rs:=S.rs.modify i (putE z' k') }:=by
 subst hz hk;exact hE_ h hv hi (c:=3) (f:=putE) (by omega) hM rfl rfl rfl rfl rfl
end
def mkR(T:am_)(pos:Nat->Nat)(x:Int×(Nat×Nat)×(Nat×Nat)):Rg:=⟨x.1,hd T pos x.2.1.1,(x.2.1.2:Nat),hd T pos x.2.2.1,(x.2.2.2:Nat)⟩
def goR(m:aa_)(r:Rec)(x:Int×(Nat×Nat)×(Nat×Nat)):Int×(Nat×Nat)×(Nat×Nat):=(x.1,bc_ m r x.2.1,bc_ m r x.2.2)
structure hl_(m:aa_)(r:Rec):Prop where
 tgt:has m r.target=true
 cut:r.kind=2->∃h,r.node=some h/\has m h=true
 num:r.index<=1000000/\r.count<=1000000/\r.size<=1000000
structure PtIn(m:aa_)(B:Nat)(x:Int×(Nat×Nat)×(Nat×Nat)):Prop where
 ha:has m x.2.1.1=true
 hb:has m x.2.2.1=true
 ka:x.2.1.2<=B
 kb:x.2.2.2<=B
theorem dP_{α:Type}{c:α->List Value}{w:World}{g:Nat}{t:TypeId}{r:α}(h:Blk g (c r).toArray t w)(k:Nat):w.cell? ⟨g,k,none⟩=(c r)[k]?:=by
 rw[(ad_ h).1 k];simp
theorem upd2_(T:am_)(m:aa_)(pos:Nat->Nat)(r:Rec)(q:Nat×Nat)(g o bt br:Nat)(w:World)(hT:aj_ w T m pos)(hBt:Blk bt #[.pointer (some ⟨T.tb,0,none⟩)] 37 w)(hBr:Blk br (aB_ T pos r).toArray 73 w)
  (hq:has m q.1=true) (hr:hl_ m r) (hqb:q.2<=1000000000) (hP:ih_ w g o (hd T pos q.1) (q.2:Nat)) :
  Calls Tryz.prog 76 #[.pointer (some ⟨g,o,none⟩),.pointer (some ⟨bt,0,none⟩),.pointer (some ⟨br,0,none⟩)] w fun e w'=>e=.returned (.tuple #[])/\en_ w w' g o (hd T pos q.1) (q.2:Nat) (hd T pos (bc_ m r q).1) ((bc_ m r q).2:Nat):=by
 have QA:=hi_ (adjust_ T m pos r q g o w hT hq hr.tgt hr.cut hqb hr.num hP);have b0:=(ad_ hBt).1 0;have b1:=hBt.lt;have r0:=dP_ hBr 0;have r1:=dP_ hBr 1;have r2:=dP_ hBr 2;have r3:=dP_ hBr 3;have r4:=dP_ hBr 4;have r5:=dP_ hBr 5;have r6:=dP_ hBr 6;have r7:=dP_ hBr 7;have r8:=dP_ hBr 8;have r9:=dP_ hBr 9;have r10:=dP_ hBr 10;have r11:=hBr.lt;simp only[aB_,List.getElem?_cons_zero,List.getElem?_cons_succ]at r0 r1 r2 r3 r4 r5 r6 r7 r8 r9 r10;obtain⟨PM,hPM⟩:∃PM:World->Prop,PM=fun w'=>en_ w w' g o (hd T pos q.1) (q.2:Nat) (hd T pos (bc_ m r q).1) ((bc_ m r q).2:Nat):=⟨_,rfl⟩;have HPM:=hi_ hPM
 have QB:Hid (Calls Tryz.prog 77 #[.pointer (some ⟨T.tb,0,none⟩),.pointer (some ⟨g,o,none⟩),nU_ T pos r] w fun e w'=>e=.returned (.tuple #[])/\PM w'):=hi_ (by rw[hPM];exact QA.out);show Calls _ _ _ _ fun e w'=>e=.returned (.tuple #[])/\en_ w w' g o (hd T pos q.1) (q.2:Nat) (hd T pos (bc_ m r q).1) ((bc_ m r q).2:Nat);have hgoal:Calls Tryz.prog 76 #[.pointer (some ⟨g,o,none⟩),.pointer (some ⟨bt,0,none⟩),.pointer (some ⟨br,0,none⟩)] w fun e w'=>e=.returned (.tuple #[])/\PM w':=by
  clear HPM hPM QA hT hBt hBr hq hr hqb hP;unfold nU_ aB_ at QB
  go_enter Tryz.func76,Tryz.ntmps76
  go_wp2_with fail
  refine QB.out.mono ?_;rintro e w2 ⟨rfl,hw2⟩;go_wp2_with fail
  exact bodyPost_end (v:=.tuple #[]) (by simp[results,Tryz.results76,go_sem]) rfl ⟨rfl,hw2⟩
 rw[HPM.out]at hgoal;exact hgoal
end A
end
section
open Go.RowKit Go.Sort
namespace A
open H G R
theorem gF_{α β:Type}(c:α->β)(f:β->β)(h:α->α)(L:List α)(i:Nat)(hi:i<L.length)(e:f (c L[i])=c (h L[i])):(L.map c).modify i f=(L.modify i h).map c:=by
 refine List.ext_getElem (by simp) fun j h1 h2=>?_;rw[List.getElem_modify,List.getElem_map,List.getElem_map,List.getElem_modify]
 split
 ·rename_i e2;subst e2;exact e
 ·rfl
theorem step_mod{α:Type}(G:α->α)(P:List α)(i:Nat)(hi:i<P.length):((P.take i).map G++P.drop i).modify i G=(P.take (i+1)).map G++P.drop (i+1):=by
 have hl:((P.take i).map G).length=i:=by simp;omega
 refine List.ext_getElem? fun j=>?_;rw[List.getElem?_modify]
 rcases Nat.lt_trichotomy j i with h|h|h
 ·rw[List.getElem?_append_left (by omega),List.getElem?_append_left (by simp;omega)]
  rw[List.getElem?_map,List.getElem?_map,List.getElem?_take,List.getElem?_take,if_pos h,if_pos (by omega)]
  cases P[j]? with
  |none=>rfl
  |some x=>show some (if i=j then G (G x)else G x)=some (G x);rw[if_neg (by omega)]
 ·subst h
  rw[List.getElem?_append_right (by omega),hl,Nat.sub_self,List.getElem?_append_left (by simp;omega),List.getElem?_drop,List.getElem?_map,List.getElem?_take,if_pos (by omega),Nat.add_zero,List.getElem?_eq_getElem hi];simp
 ·rw[List.getElem?_append_right (by omega),hl,List.getElem?_append_right (by simp;omega),List.getElem?_drop,List.getElem?_drop]
  have e:(List.map G (List.take (i+1) P)).length=i+1:=by simp;omega
  rw[e,show i+(j-i)=j by omega,show i+1+(j-(i+1))=j by omega]
  cases P[j]? with
  |none=>rfl
  |some x=>show some (if i=j then G x else x)=some x;rw[if_neg (by omega)]
theorem hk_{α:Type}(G:α->α)(P:List α)(i:Nat)(hi:i<P.length)(h:i<((P.take i).map G++P.drop i).length):((P.take i).map G++P.drop i)[i]=P[i]:=by
 have hl:((P.take i).map G).length=i:=by simp;omega
 rw[List.getElem_append_right (by omega)];simp only[hl,Nat.sub_self,List.getElem_drop,Nat.add_zero]
def dC_(m:aa_)(r:Rec)(P:List (Int×(Nat×Nat)×(Nat×Nat)))(i:Nat):List (Int×(Nat×Nat)×(Nat×Nat)):=(P.take i).map (goR m r)++P.drop i
theorem ex_(m:aa_)(r:Rec)(P:List (Int×(Nat×Nat)×(Nat×Nat))){i:Nat}(hi:i<=P.length):(dC_ m r P i).length=P.length:=by
 unfold dC_;simp;omega
def eg_(m:aa_)(r:Rec)(x:Int×(Nat×Nat)×(Nat×Nat)):Int×(Nat×Nat)×(Nat×Nat):=(x.1,bc_ m r x.2.1,x.2.2)
theorem iN_{m:aa_}{r:Rec}{P:List (Int×(Nat×Nat)×(Nat×Nat))}{T:am_}{pos:Nat->Nat}{i:Nat}(hi:i<P.length) :
  ((dC_ m r P i).map (mkR T pos)).modify i (putS (hd T pos (bc_ m r P[i].2.1).1) ((bc_ m r P[i].2.1).2:Nat))=((dC_ m r P i).modify i (eg_ m r)).map (mkR T pos):=
 gF_ _ _ _ _ _ (by rw[ex_ _ _ _ (Nat.le_of_lt hi)];exact hi) (by rw[show(dC_ m r P i)[i]'(by rw[ex_ _ _ _ (Nat.le_of_lt hi)];exact hi)=P[i]from hk_ _ _ _ hi _];rfl)
theorem iO_{m:aa_}{r:Rec}{P:List (Int×(Nat×Nat)×(Nat×Nat))}{T:am_}{pos:Nat->Nat}{i:Nat}(hi:i<P.length) :
  (((dC_ m r P i).modify i (eg_ m r)).map (mkR T pos)).modify i (putE (hd T pos (bc_ m r P[i].2.2).1) ((bc_ m r P[i].2.2).2:Nat))=(dC_ m r P (i+1)).map (mkR T pos):=by
 have hl:i<(dC_ m r P i).length:=by rw[ex_ _ _ _ (Nat.le_of_lt hi)];exact hi
 have e1:(dC_ m r P i)[i]=P[i]:=hk_ _ _ _ hi _;have e2:((dC_ m r P i).modify i (eg_ m r))[i]'(by rw[List.length_modify];exact hl)=eg_ m r P[i]:=by rw[List.getElem_modify_eq,e1]
 rw[gF_ (mkR T pos) _ (fun x=>(x.1,x.2.1,bc_ m r P[i].2.2)) _ i (by rw[List.length_modify];exact hl) (by rw[e2];rfl)]
 congr 1
 rw[show dC_ m r P (i+1)=(dC_ m r P i).modify i (goR m r)from (step_mod _ _ _ hi).symm];refine List.ext_getElem (by simp) fun j h1 h2=>?_;rw[List.getElem_modify,List.getElem_modify,List.getElem_modify]
 split
 ·rename_i e;subst e;rw[e1];rfl
 ·rfl
theorem each_(T:am_)(m:aa_)(pos:Nat->Nat)(r:Rec)(S:bh_)(P:List (Int×(Nat×Nat)×(Nat×Nat)))(bs bt br:Nat)(w:World)(hT:aj_ w T m pos)(hS:as_ w S)(hBs:Blk bs #[.pointer (some ⟨S.sb,0,none⟩)] 109 w)(hBt:Blk bt #[.pointer (some ⟨T.tb,0,none⟩)] 37 w)(hBr:Blk br (aB_ T pos r).toArray 73 w)
  (hP:S.rs=P.map (mkR T pos)) (hr:hl_ m r) (hin:∀x∈P,PtIn m 1000000000 x) :
  Calls Tryz.prog 75 #[.func (.func 76) #[] #[.pointer (some ⟨bt,0,none⟩),.pointer (some ⟨br,0,none⟩)],.pointer (some ⟨bs,0,none⟩)] w fun e w'=>e=.returned (.tuple #[])/\H.Frame S.foot w w'/\as_ w' { S with rs:=(P.map (goR m r)).map (mkR T pos) }:=by
 obtain⟨ao,cap,hrv⟩:=ac_.slice hS.rows;have hlen:S.rs.length=P.length:=by rw[hP];simp
 have hfew:=hS.few.1;rw[hlen]at hrv hfew;have HRv:=hi_ hrv;have HSo:Hid (S={ S with rs:=(dC_ m r P 0).map (mkR T pos) }):=hi_ (by unfold dC_;simp only[List.take_zero,List.map_nil,List.nil_append,List.drop_zero];rw[<-hP]);have hAll:(dC_ m r P P.length)=P.map (goR m r):=by unfold dC_;simp
 have HS0:=hi_ hS;have HT0:=hi_ hT;have HBs:=hi_ hBs;have HBt:=hi_ hBt;have HBr:=hi_ hBr;have HIn:=hi_ hin;have HN:Hid (¬S.foot bs/\¬S.foot bt/\¬S.foot br):=hi_ ⟨ca_ hS hBs (by decide),ca_ hS hBt (by decide),ca_ hS hBr (by decide)⟩;have QU:=hi_ (fun(q:Nat×Nat) (g o:Nat) (W:World) (f:H.Frame S.foot w W) (hq:has m q.1=true) (hqb:q.2<=1000000000) (hp:ih_ W g o (hd T pos q.1) (q.2:Nat))=>upd2_ T m pos r q g o bt br W (hT.frame hS f) (hBt.frame f (ca_ hS hBt (by decide))) (hBr.frame f (ca_ hS hBr (by decide))) hq hr hqb hp);have sc:=cS_ hS.blk;obtain⟨s0,s1,s2,s3⟩:=sc;rw[hrv]at s0;have b0:=(ad_ hBs).1 0;have b1:=hBs.lt;rw[<-hAll];clear hT hS hBs hBt hBr hin hP hr hrv hlen hAll
 go_enter Tryz.func75,Tryz.ntmps75
 go_wp2_with fail
 clear s0 s1 s2 s3 b0 b1
 go_loopw [9] (fun v9 wr=>∃i:Nat,v9=.int .i64 i/\i<=P.length/\Hid (H.Frame S.foot w wr)/\Hid (as_ wr { S with rs:=(dC_ m r P i).map (mkR T pos) })) (fun v9 _=>P.length-(aN_ v9).toNat)
 case atStart=>exact⟨0,rfl,Nat.zero_le _,hi_ (Frame.refl _ _),hi_ (by rw[<-HSo.out];exact HS0.out)⟩
 case round=>
  obtain⟨i,rfl,hi,HF,HS⟩:=hrel
  by_cases hil:i<P.length
  ·have hiI:(i:Int)<(P.length:Int):=by omega
   have hlm:((dC_ m r P i).map (mkR T pos)).length=P.length:=by rw[List.length_map,ex_ _ _ _ hi]
   have hli:i<((dC_ m r P i).map (mkR T pos)).length:=by rw[hlm];exact hil
   obtain⟨g,cap',e,_,hgl,_⟩:=a1_ HS.out.rows (by rw[hlm];omega);have e':S.rv=_:=e;rw[HRv.out,hlm]at e';injection e' with e1 _ e3
   subst e1 e3;have hv:S.rv=.slice (some ⟨g,0,none⟩) ((dC_ m r P i).map (mkR T pos)).length cap:=by rw[hlm];exact HRv.out
   have hat:((dC_ m r P i).map (mkR T pos))[i]=mkR T pos P[i]:=by rw[List.getElem_map];exact congrArg _ (hk_ _ _ _ hil _)
   have hpt:=(kW_ (S:={ S with rs:=(dC_ m r P i).map (mkR T pos) }) HS.out hv hli).1;have hx:=HIn.out P[i] (List.getElem_mem hil);have hpt2:ih_ wr g (i*5+1) (hd T pos P[i].2.1.1) (P[i].2.1.2:Nat):=by have h1:=hpt;dsimp only at h1;rw[hat]at h1;exact h1
   have Q1:=hi_ (QU.out P[i].2.1 g (i*5+1) wr HF.out hx.ha hx.ka hpt2);have HM1:=hi_ (fun(W:World) (hM:en_ wr W g (i*5+1) (hd T pos P[i].2.1.1) (P[i].2.1.2:Nat) (hd T pos (bc_ m r P[i].2.1).1) ((bc_ m r P[i].2.1).2:Nat))=>iC_ (S:={ S with rs:=(dC_ m r P i).map (mkR T pos) }) HS.out hv hli (by show((dC_ m r P i).map (mkR T pos))[i].sn=_;rw[hat];rfl) (by show((dC_ m r P i).map (mkR T pos))[i].si=_;rw[hat];rfl) hM);have HHm:=hi_ (iN_ (m:=m) (r:=r) (P:=P) (T:=T) (pos:=pos) hil);have HFm:=hi_ (iO_ (m:=m) (r:=r) (P:=P) (T:=T) (pos:=pos) hil);have hle2:((dC_ m r P i).modify i (eg_ m r)).length=P.length:=by rw[List.length_modify,ex_ _ _ _ hi]
   have HAt2:Hid (∀h,(((dC_ m r P i).modify i (eg_ m r)).map (mkR T pos))[i]'h=mkR T pos (eg_ m r P[i])):=hi_ (fun h=>by
    rw[List.getElem_map];refine congrArg _ ?_;rw[List.getElem_modify_eq];exact congrArg _ (hk_ _ _ _ hil _))
   have HLe2:=hi_ hle2;have HHx:=hi_ hx;have sc:=cS_ HS.out.blk;obtain⟨s0,s1,s2,s3⟩:=sc;dsimp only at s0 s3;rw[HRv.out]at s0;have b0:=(ad_ (HBs.out.frame HF.out HN.out.1)).1 0;have b1:=(HBs.out.frame HF.out HN.out.1).lt;clear hlm hv hat hpt hpt2 hx e hle2 hli s1 s2;go_upto_region 3 with fail
   go_wp2_with fail
   refine Q1.out.mono ?_;rintro e w1 ⟨rfl,hM1⟩;obtain⟨hf1,hs1⟩:=HM1.out w1 hM1;have HF1:=hi_ (HF.out.trans hf1 (fun b hb=>Or.inl hb));have HS1:Hid (as_ w1 { S with rs:=((dC_ m r P i).modify i (eg_ m r)).map (mkR T pos) }):=hi_ (by
    have h1:=hs1
    (try dsimp only at h1)
    rw[HHm.out]at h1;exact h1)
   clear hM1 hf1 hs1 Q1 HM1 s0 s3 b0 b1;have hli1:i<(((dC_ m r P i).modify i (eg_ m r)).map (mkR T pos)).length:=by rw[List.length_map,HLe2.out];exact hil
   have hv1:S.rv=.slice (some ⟨g,0,none⟩) (((dC_ m r P i).modify i (eg_ m r)).map (mkR T pos)).length cap:=by rw[List.length_map,HLe2.out];exact HRv.out
   have hpt:=(kW_ (S:={ S with rs:=((dC_ m r P i).modify i (eg_ m r)).map (mkR T pos) }) HS1.out hv1 hli1).2;have hpt2:ih_ w1 g (i*5+3) (hd T pos P[i].2.2.1) (P[i].2.2.2:Nat):=by have h1:=hpt;dsimp only at h1;rw[HAt2.out]at h1;exact h1
   have Q2:=hi_ (QU.out P[i].2.2 g (i*5+3) w1 HF1.out HHx.out.hb HHx.out.kb hpt2);have HM2:=hi_ (fun(W:World) (hM:en_ w1 W g (i*5+3) (hd T pos P[i].2.2.1) (P[i].2.2.2:Nat) (hd T pos (bc_ m r P[i].2.2).1) ((bc_ m r P[i].2.2).2:Nat))=>ll_ (S:={ S with rs:=((dC_ m r P i).modify i (eg_ m r)).map (mkR T pos) }) HS1.out hv1 hli1 (by show(((dC_ m r P i).modify i (eg_ m r)).map (mkR T pos))[i].en=_;rw[HAt2.out];rfl) (by show(((dC_ m r P i).modify i (eg_ m r)).map (mkR T pos))[i].ei=_;rw[HAt2.out];rfl) hM);have sc:=cS_ HS1.out.blk;obtain⟨s0,s1,s2,s3⟩:=sc;dsimp only at s0 s3;rw[HRv.out]at s0;have b0:=(ad_ (HBs.out.frame HF1.out HN.out.1)).1 0;have b1:=(HBs.out.frame HF1.out HN.out.1).lt;have hgl:=(kW_ (S:={ S with rs:=((dC_ m r P i).modify i (eg_ m r)).map (mkR T pos) }) HS1.out hv1 hli1).2.lt
   clear hv1 hpt hpt2 hli1 s1 s2;go_upto_region 4 with fail
   go_wp2_with fail
   refine Q2.out.mono ?_;rintro e w2 ⟨rfl,hM2⟩;obtain⟨hf2,hs2⟩:=HM2.out w2 hM2;have HF2:=hi_ (HF1.out.trans hf2 (fun b hb=>Or.inl hb));have HS2:Hid (as_ w2 { S with rs:=(dC_ m r P (i+1)).map (mkR T pos) }):=hi_ (by
    have h1:=hs2
    (try dsimp only at h1)
    rw[HFm.out]at h1;exact h1)
   clear hM2 hf2 hs2 Q2 HM2 s0 s3 b0 b1;go_wp2_with fail
   refine⟨⟨i+1,by push_cast;rfl,by omega,HF2,HS2⟩,?_⟩;show P.length-((i:Int)+1).toNat<P.length-((i:Int)).toNat;omega
  ·obtain rfl:i=P.length:=by omega
   go_wp2_with fail
   exact bodyPost_end (v:=.tuple #[]) (by simp[results,Tryz.results75,go_sem]) rfl ⟨rfl,HF.out,HS.out⟩
def c0_(m:aa_)(rs:List Rec)(x:Int×(Nat×Nat)×(Nat×Nat)):Int×(Nat×Nat)×(Nat×Nat):=(x.1,b0_ m rs x.2.1,b0_ m rs x.2.2)
theorem gJ_(m:aa_)(P:List (Int×(Nat×Nat)×(Nat×Nat))):P.map (c0_ m [])=P:=by
 have:c0_ m []=id:=by funext x;rfl
 rw[this,List.map_id]
theorem eY_(m:aa_)(rs:List Rec)(r:Rec)(q:Nat×Nat):b0_ m (rs++[r]) q=bc_ m r (b0_ m rs q):=by unfold b0_;rw[List.foldl_append];rfl
theorem f0_(m:aa_)(rs:List Rec)(r:Rec)(P:List (Int×(Nat×Nat)×(Nat×Nat))):(P.map (c0_ m rs)).map (goR m r)=P.map (c0_ m (rs++[r])):=by
 rw[List.map_map];refine List.map_congr_left fun x _=>?_;show(x.1,bc_ m r (b0_ m rs x.2.1),bc_ m r (b0_ m rs x.2.2))=(x.1,b0_ m (rs++[r]) x.2.1,b0_ m (rs++[r]) x.2.2);rw[eY_,eY_]
theorem jy_{m:aa_}{r:Rec}(hr:hl_ m r)(q:Nat×Nat):(bc_ m r q).2<=q.2+1000000:=by
 obtain⟨h1,h2,h3⟩:=hr.num;unfold bc_
 repeat' split
 all_goals ((try dsimp only);omega)
theorem jz_{m:aa_}{r:Rec}(hr:hl_ m r)(q:Nat×Nat)(hq:has m q.1=true):has m (bc_ m r q).1=true:=by
 unfold bc_
 split
 ·exact hr.tgt
 ·repeat' split
  all_goals exact hq
theorem hT_{m:aa_}{P:List (Int×(Nat×Nat)×(Nat×Nat))}(hin:∀x∈P,PtIn m 1000000 x){l:List Rec}(hr:∀r∈l,hl_ m r):∀n,n<=l.length->n<=100->∀x∈P.map (c0_ m (l.take n)),PtIn m (1000000*(n+1)) x:=by
 intro n
 induction n with
 |zero=>intro _ _ x hx;rw[List.take_zero,gJ_]at hx;have h:=hin x hx;exact⟨h.ha,h.hb,by have:=h.ka;omega,by have:=h.kb;omega⟩
 |succ n ih=>
  intro hn h100 x hx;have e:l.take (n+1)=l.take n++[l[n]]:=by rw[List.take_add_one,List.getElem?_eq_getElem (by omega)];rfl
  rw[e,<-f0_]at hx;obtain⟨y,hy,rfl⟩:=List.mem_map.1 hx;have h:=ih (by omega) (by omega) y hy;have hR:=hr l[n] (List.getElem_mem _);have k1:=jy_ hR y.2.1;have k2:=jy_ hR y.2.2;have j1:=h.ka;have j2:=h.kb;exact⟨jz_ hR _ h.ha,jz_ hR _ h.hb,by show(bc_ m l[n] y.2.1).2<=_;omega,by show(bc_ m l[n] y.2.2).2<=_;omega⟩
theorem update_(T:am_)(m:aa_)(pos:Nat->Nat)(S:bh_)(P:List (Int×(Nat×Nat)×(Nat×Nat)))(base:Nat)(v:Value)(rs:List Rec)(w:World)(hT:aj_ w T m pos)(hS:as_ w S)(hv:ax_ T pos base w v rs)(hits:S.its=[])
  (hP:S.rs=P.map (mkR T pos)) (hr:∀r∈rs,hl_ m r) (hl:rs.length<=100) (hin:∀x∈P,PtIn m 1000000 x) :
  Calls Tryz.prog 25 #[.pointer (some ⟨S.sb,0,none⟩),.pointer (some ⟨T.tb,0,none⟩),v] w fun e w'=>e=.returned (.tuple #[])/\H.Frame S.foot w w'/\as_ w' { S with rs:=(P.map (c0_ m rs)).map (mkR T pos) }:=by
 obtain⟨vo,vcap,rfl⟩:=hv.form;obtain⟨io,icap,hiv⟩:=ac_.slice hS.itrow;rw[hits,List.length_nil]at hiv;have HIv:=hi_ hiv;have hb2:=((Below.refl w.heap.size w).alloc (nl_) (.cells #[.pointer (some ⟨S.sb,0,none⟩)] 109)).alloc (by simp) (.cells #[.pointer (some ⟨T.tb,0,none⟩)] 37);have hBs:=(Blk.new w #[.pointer (some ⟨S.sb,0,none⟩)] 109).alloc (.cells #[.pointer (some ⟨T.tb,0,none⟩)] 37);have hBt:=Blk.new (w.alloc (.cells #[.pointer (some ⟨S.sb,0,none⟩)] 109)) #[.pointer (some ⟨T.tb,0,none⟩)] 37;rw[World.size_alloc]at hBt;have hS1:=hS.below hb2;have hT1:=hT.below hb2;have hv1:ax_ T pos base _ _ rs:=own_below hv hb2;have HFw:Hid (H.Frame S.foot w _):=hi_ (Frame.of hb2);have HS1:=hi_ hS1
 have HSo:Hid (S={ S with rs:=(P.map (c0_ m (rs.take 0))).map (mkR T pos) }):=hi_ (by rw[List.take_zero,gJ_,<-hP]);have HEnd:Hid (rs.take rs.length=rs):=hi_ (List.take_length);have HBs:=hi_ hBs;have HBt:=hi_ hBt;have HGoA:=hi_ (fun n hn h100=>hT_ hin hr n hn h100);have HRi:=hi_ hr;have HSn:=hi_ (fun n (hn:n<rs.length)=>(show rs.take (n+1)=rs.take n++[rs[n]] by rw[List.take_add_one,List.getElem?_eq_getElem hn];rfl));obtain⟨W2,hW2⟩:∃W2,W2=(w.alloc (.cells #[.pointer (some ⟨S.sb,0,none⟩)] 109)).alloc (.cells #[.pointer (some ⟨T.tb,0,none⟩)] 37):=⟨_,rfl⟩;have HN:Hid (¬S.foot w.heap.size/\¬S.foot (w.heap.size+1)):=hi_ ⟨ca_ hS1 hBs (by decide),ca_ hS1 hBt (by decide)⟩
 have HTr:=hi_ (fun W (f:H.Frame S.foot W2 W)=>(by rw[hW2]at f;exact hT1.frame hS1 f:aj_ W T m pos));have HVr:=hi_ (fun W (f:H.Frame S.foot W2 W)=>(by
  rw[hW2]at f;refine ah_ hv1 f (fun g hg hs=>?_);obtain⟨cs,hc⟩:=aV_ hv1 hg;exact ca_ hS1 hc (by decide) hs:ax_ T pos base W (.slice vo rs.length vcap) rs))
 have QE:=hi_ (fun(r:Rec) (Q:List (Int×(Nat×Nat)×(Nat×Nat))) (br:Nat) (W:World) (hTW:aj_ W T m pos) (hSW:as_ W { S with rs:=Q.map (mkR T pos) }) (h1:Blk w.heap.size #[.pointer (some ⟨S.sb,0,none⟩)] 109 W) (h2:Blk (w.heap.size+1) #[.pointer (some ⟨T.tb,0,none⟩)] 37 W) (h3:Blk br (aB_ T pos r).toArray 73 W) (h4:hl_ m r) (h5:∀x∈Q,PtIn m 1000000000 x)=>each_ T m pos r { S with rs:=Q.map (mkR T pos) } Q w.heap.size (w.heap.size+1) br W hTW hSW h1 h2 h3 rfl h4 h5);clear hT hS hv hits hP hr hin hb2 hBs hBt hS1 hT1 hv1 hiv
 go_enter Tryz.func25,Tryz.ntmps25
 go_upto_region 2 with fail
 rw[<-hW2]at HFw HS1 HBs HBt ⊢;clear hW2;go_wp2_with fail
 go_loopw [13] (fun v13 wr=>∃i:Nat,v13=.int .i64 i/\i<=rs.length/\Hid (H.Frame S.foot W2 wr)/\Hid (as_ wr { S with rs:=(P.map (c0_ m (rs.take i))).map (mkR T pos) })) (fun v13 _=>rs.length-(aN_ v13).toNat)
 case atStart=>exact⟨0,rfl,Nat.zero_le _,hi_ (Frame.refl _ _),hi_ (by rw[<-HSo.out];exact HS1.out)⟩
 case round=>
  obtain⟨i,rfl,hi,HF,HS⟩:=hrel
  by_cases hil:i<rs.length
  ·have hiI:(i:Int)<(rs.length:Int):=by omega
   have hvr:=HVr.out wr HF.out;obtain⟨g0,cap',e,_,hgl,_⟩:=a1_ hvr (by omega);injection e with e1 _ e3
   subst e1 e3;have c:=fun k (hk:k<11)=>(ac_.cell (dg_ T pos) hvr hil (k:=k) hk).1;have c0:=c 0 (by omega);have c1:=c 1 (by omega);have c2:=c 2 (by omega);have c3:=c 3 (by omega);have c4:=c 4 (by omega);have c5:=c 5 (by omega);have c6:=c 6 (by omega);have c7:=c 7 (by omega);have c8:=c 8 (by omega);have c9:=c 9 (by omega);have c10:=c 10 (by omega);have HRr:=hi_ (HRi.out rs[i] (List.getElem_mem hil));have HSni:=hi_ (HSn.out i hil);have HPi:=hi_ (HGoA.out i hi (by omega));simp only[aB_,List.getElem?_cons_zero,List.getElem?_cons_succ,Nat.add_zero]at c0 c1 c2 c3 c4 c5 c6 c7 c8 c9 c10;generalize rs[i]=r at *;clear c hvr;go_upto_region 5 with fail
   have hbb:=(Below.refl wr.heap.size wr).alloc (nl_) (.cells (aB_ T pos r).toArray 73);have hbr:=Blk.new wr (aB_ T pos r).toArray 73;show Code.wp _ _ _ _ (wr.alloc (.cells (aB_ T pos r).toArray 73));have HF1:Hid (H.Frame S.foot W2 _):=hi_ (HF.out.below_ hbb);have HS1':=hi_ (HS.out.below hbb);have HBr:=hi_ hbr;clear hbb hbr c0 c1 c2 c3 c4 c5 c6 c7 c8 c9 c10 HF HS hgl;generalize wr.alloc (.cells (aB_ T pos r).toArray 73)=w5 at *;have Q1:=hi_ (QE.out r (P.map (c0_ m (rs.take i))) wr.heap.size w5 (HTr.out w5 HF1.out) HS1'.out (HBs.out.frame HF1.out HN.out.1) (HBt.out.frame HF1.out HN.out.2) HBr.out HRr.out (fun x hx=>by have h:=HPi.out x hx;exact⟨h.ha,h.hb,by have:=h.ka;omega,by have:=h.kb;omega⟩));go_wp2_with fail
   refine Q1.out.mono ?_;rintro e w6 ⟨rfl,hf6,hs6⟩;have HF6:=hi_ (HF1.out.trans hf6 (fun b hb=>Or.inl hb));have HS6:Hid (as_ w6 { S with rs:=(P.map (c0_ m (rs.take (i+1)))).map (mkR T pos) }):=hi_ (by
    have h1:=hs6;rw[f0_,<-HSni.out]at h1;exact h1)
   clear hf6 hs6 Q1 HF1 HS1' HBr HRr HPi HSni;obtain⟨s0,s1,s2,s3⟩:=cS_ HS6.out.blk;dsimp only at s1 s3;rw[HIv.out]at s1;have b0:=(ad_ (HBs.out.frame HF6.out HN.out.1)).1 0;have b1:=(HBs.out.frame HF6.out HN.out.1).lt;clear s0 s2;go_wp2_with fail
   go_loopw [25] (fun v25 wr=>v25=.int .i64 0/\Hid (w6=wr)) (fun v25 _=>0)
   case atStart=>exact⟨rfl,hi_ rfl⟩
   case round=>
    obtain⟨rfl,HW⟩:=hrel;obtain rfl:=HW.out;go_wp2_with fail
    refine⟨⟨i+1,by push_cast;rfl,by omega,HF6,HS6⟩,?_⟩;show rs.length-((i:Int)+1).toNat<rs.length-((i:Int)).toNat;omega
  ·obtain rfl:i=rs.length:=by omega
   go_wp2_with fail
   exact bodyPost_end (v:=.tuple #[]) (by simp[results,Tryz.results25,go_sem]) rfl ⟨rfl,HFw.out.trans HF.out (fun b hb=>Or.inl hb),by have:=HS.out;rw[HEnd.out]at this;exact this⟩
theorem mMove(M:aF_)(r:Rec)(q:Nat×Nat)(nz:Int)(w:World)(hM:ab_ w M)(W:WF M.m)(hq:q.1<M.m.length)(hr:hl_ M.m r)(hnz:∀h,r.kind=2->r.node=some h->nz=(h:Nat))(hqb:q.2<=1000000000) :
  Calls Tryz.prog 27 #[.pointer (some ⟨M.mb,0,none⟩),.agg #[.int .i64 q.1,.int .i64 q.2],.agg #[.int .i64 r.kind,.int .i64 r.target,.int .i64 nz,.int .i64 0,.int .i64 0,.int .i64 r.index,.string ⟨#[]⟩,.string ⟨#[]⟩,.bool false,.int .i64 r.count,.int .i64 r.size]] w
   fun e w'=>e=.returned (.agg #[.int .i64 ((bc_ M.m r q).1:Nat),.int .i64 ((bc_ M.m r q).2:Nat)])/\Below w.heap.size w w':=by
 obtain⟨b1,b2,b3⟩:=hr.num
 by_cases k2:r.kind=2
 ·obtain⟨h,e,hh⟩:=hr.cut k2
  have hC:∀W',ab_ W' M->Calls Tryz.prog 80 #[.pointer (some ⟨M.mb,0,none⟩),.int .i64 nz,.int .i64 q.1] W' fun e w'=>e=.returned (.bool (contains M.m h q.1))/\W'=w':=fun W' hW=>by
   rw[hnz h k2 e];exact hJ_ M h q.1 W' hW W (by rw[<-M.m_len];exact hq)
  cases hc:contains M.m h q.1 with
  |true=>
   rw[hc]at hC;rw[go_in k2 e hc,k2];exact mv_in M _ _ 0 _ _ _ _ _ _ _ _ _ _ hC w hM
  |false=>
   rw[hc]at hC;rw[hb_ (by rintro⟨_,h2,e2,c2⟩;rw[e]at e2;injection e2 with e2;rw[<-e2,hc]at c2;cases c2),k2]
   by_cases h1:q.1=r.target
   ·by_cases h2:q.2<=r.index
    ·rw[if_pos (Or.inr h2),<-h1]
     exact mv_2_le M _ _ 0 0 _ _ _ _ _ _ _ _ _ hC (by omega) w hM
    ·rw[if_neg (fun h3=>h3.elim (fun h4=>h4 h1) h2),if_neg (by decide),if_pos rfl,<-h1]
     have:=mv_2_gt M (q.1:Nat) (q.2:Nat) 0 0 nz (r.index:Nat) (r.count:Nat) (r.size:Nat) (.int .i64 0) (.int .i64 0) (.string ⟨#[]⟩) (.string ⟨#[]⟩) (.bool false) hC (by omega) (IntWalk.i64_in _ (by omega)) w hM;rw[show((q.2:Nat):Int)-1=((q.2-1:Nat):Int) by omega]at this;exact this
   ·rw[if_pos (Or.inl h1)]
    exact mv_2_nt M _ _ 0 _ _ _ _ _ _ _ _ _ _ hC (by omega) w hM
 ·rw[hb_ (fun h3=>k2 h3.1)]
  have k2':¬((r.kind:Nat):Int)=2:=by omega
  by_cases k1:r.kind=1
  ·rw[k1]
   by_cases h1:q.1=r.target
   ·by_cases h2:q.2<=r.index
    ·rw[if_pos (Or.inr h2),<-h1]
     exact mv_1_le M _ _ 0 0 _ _ _ _ _ _ _ _ _ (by omega) w hM
    ·rw[if_neg (fun h3=>h3.elim (fun h4=>h4 h1) h2),if_pos rfl,<-h1]
     exact mv_1_gt M (q.1:Nat) (q.2:Nat) 0 0 nz (r.index:Nat) (r.count:Nat) (r.size:Nat) _ _ _ _ _ (by omega) (IntWalk.i64_in _ (by omega)) w hM
   ·rw[if_pos (Or.inl h1)]
    exact mv_1_nt M _ _ 0 _ _ _ _ _ _ _ _ _ _ (by omega) w hM
  ·by_cases k4:r.kind=4
   ·rw[k4]
    by_cases h1:q.1=r.target
    ·by_cases h2:q.2<=r.index
     ·rw[if_pos (Or.inr h2),<-h1]
      exact mv_4_le M _ _ 0 0 _ _ _ _ _ _ _ _ _ (by omega) w hM
     ·rw[if_neg (fun h3=>h3.elim (fun h4=>h4 h1) h2),if_neg (by decide),if_neg (by decide),if_pos rfl,<-h1]
      by_cases h4:q.2<=r.index+r.count
      ·rw[if_pos h4]
       exact mv_4_in M (q.1:Nat) (q.2:Nat) 0 0 nz (r.index:Nat) (r.count:Nat) (r.size:Nat) _ _ _ _ _ (by omega) (by omega) (IntWalk.i64_in _ (by omega)) w hM
      ·rw[if_neg h4]
       have:=mX_ M (q.1:Nat) (q.2:Nat) 0 0 nz (r.index:Nat) (r.count:Nat) (r.size:Nat) (.int .i64 0) (.int .i64 0) (.string ⟨#[]⟩) (.string ⟨#[]⟩) (.bool false) (by omega) (by omega) (IntWalk.i64_in _ (by omega)) (IntWalk.i64_in _ (by omega)) (IntWalk.i64_in _ (by omega)) w hM;rw[show((q.2:Nat):Int)+(((r.size:Nat):Int)-((r.count:Nat):Int))=((q.2-r.count+r.size:Nat):Int) by omega]at this;exact this
    ·rw[if_pos (Or.inl h1)]
     exact mv_4_nt M _ _ 0 _ _ _ _ _ _ _ _ _ _ (by omega) w hM
   ·rw[if_neg k1,if_neg k2,if_neg k4]
    rw[show(if q.1≠r.target\/q.2<=r.index then q else q)=q by split<;>rfl];exact mv_o M _ _ _ _ _ _ _ _ _ _ _ _ _ (by omega) k2' (by omega) w hM
end A
end
section
open Go.RowKit Go.Sort
namespace A
open H G R
section
variable {w w' w0 W:World} {X:Tw} {D:Nat->Prop}
theorem be_.base(h:be_ w0 W X)(b:Below w.heap.size w w0):be_ w W X:=
 ⟨h.tree,h.model,h.sim,h.apart,h.blk,h.row,h.hap,h.slots,b.trans (h.bel.mono b.size),fun k hk=>Nat.le_trans b.size (h.low k hk),h.fr,h.flow⟩
theorem be_.frameT(h:be_ w0 w X)(f:H.Frame D w w')(hD:∀k,D k->∃t,t∉eP_/\Typed w k t)(hl:∀k,D k->w0.heap.size<=k):be_ w0 w' { X with wD:=w',D:=X.foot }:=by
 have na:∀k,(X.foot k\/∃r∈X.T.slots,r.attrs.ownBlock=some k)->¬D k:=fun k hk hd=>by
  obtain⟨t,ht,h1⟩:=h.typed hk;obtain⟨s,hs,h2⟩:=hD k hd;rw[h2.eq h1]at hs;exact hs ht
 exact⟨⟨al_.frame h.tree.mem f (fun k hk=>na k (Or.inl (Or.inr (Or.inl hk)))) (fun r hr b hb=>na b (Or.inr ⟨r,hr,hb⟩)),h.tree.fits⟩,
  h.model.frame f (fun k hk=>na k (Or.inl (Or.inr (Or.inr (Or.inl hk))))),h.sim,h.apart,h.blk.frame f (na _ (Or.inl (Or.inl rfl))),
  ah_ h.row f (fun k hk=>na k (Or.inl (Or.inr (Or.inr (Or.inr hk))))),h.hap,h.slots,h.bel.trans (f.below hl h.bel.size),h.low,H.Frame.refl _ _,fun k hk=>Or.inl hk⟩
theorem as_.frameT{S:bh_}(h:as_ w S)(f:H.Frame D w w')(hD:∀k,D k->∃t,t∉eq_/\Typed w k t):as_ w' S:=
 h.frame f (fun k hk hd=>by
  obtain⟨t,ht,h1⟩:=h.typed hk;obtain⟨s,hs,h2⟩:=hD k hd;rw[h2.eq h1]at hs;exact hs ht)
theorem gL_(h:be_ w0 w X){k:Nat}{cs:Array Value}{t:TypeId}(hb:Blk k cs t w)(ht:t∉eP_):¬X.foot k:=fun hk=>by
 obtain⟨s,hs,h1⟩:=h.typed (Or.inl hk);rw[h1.eq ⟨cs,hb⟩]at hs;exact ht hs
end
theorem kS_(lim:Option Nat)(m:aa_)(o:G.Op):(G.step lim m o).1.length<=2:=by
 unfold G.step
 split
 ·split<;>simp
 ·split
  ·split
   ·unfold G.insert
    split
    ·simp
    ·split
     ·simp
     ·unfold bp_
      cases (nd m (o.at_ m)).parent<;>simp
   ·simp
  ·split
   ·simp
   ·split
    ·unfold G.by_
     split
     ·simp
     ·split<;>simp
    ·split
     ·unfold G.aD_
      split
      ·simp
      ·split
       ·simp
       ·split
        ·simp
        ·split<;>simp
     ·split
      ·unfold G.aG_
       split
       ·simp
       ·split<;>simp
      ·split
       ·unfold G.replace
        split
        ·simp
        ·split<;>simp
       ·split<;>simp
structure iY_(m m':aa_)(rs:List Rec)(x y:Nat×Nat):Prop where
 few:rs.length<=2
 rcs:∀r∈rs,hl_ m' r
 whole:Whole m'
 attrs:∀i,(nd m' i).attrs.length<=100000
 len:m'.length=m.length
 beh:gR_ m m' rs x y
 hx:has m' (b0_ m' rs x).1=true
 hy:has m' (b0_ m' rs y).1=true
 pin:PtIn m' 1000000 (1,x,y)
 keep:cV_ m m'
theorem mW_{X:Tw}(g:Good X)(W:WF X.m){o:G.Op}(hk:3<=o.kind % 10/\o.kind % 10<8)(h40:o.t.length<=40){a b:Nat×Nat}(ha:has X.m a.1=true)(hb:has X.m b.1=true)(ka:a.2<=G.sizeOf X.m a.1)(kb:b.2<=G.sizeOf X.m b.1)(ht:top X.m a.1=top X.m b.1)(hc:lcmp X.m a b<=0) :
  iY_ X.m (G.step (some 64) X.m o).2.2 (G.step (some 64) X.m o).1 a b:=by
 obtain⟨hB,hR⟩:=iS_ (lim:=some 64) W g.whole (by have:=g.len;omega) h40 hk ⟨aR_ ha,ka⟩ ⟨aR_ hb,kb⟩ ht hc;have hK:=cv_ (lim:=some 64) (m:=X.m) hk;have hok:=lf_ (o:=o) (lim:=some 64) g.ok (by have:=U.gy_ o.t;omega);have hsz:=fun i=>cJ_ W g.whole (by have:=g.len;omega) i;have W':=hB.1;refine⟨kS_ _ _ _,fun r hr=>?_,fun i=>?_,fun i=>?_,hK.1,hB,?_,?_,⟨?_,?_,?_,?_⟩,hK⟩
 ·have h:=hR r hr
  refine⟨by rw[hK.has];exact h.tgt,fun e=>?_,h.idx,h.cnt,h.siz⟩;obtain⟨x,e1,e2⟩:=h.cut e;refine⟨x,e1,?_⟩;rw[hK.has];have h3:=h.tgt;unfold G.has at h3 ⊢;rw[W.gone x r.target e2];exact h3
 ·have h:=hok i
  unfold bod at h;dsimp only[cT_]at h;exact⟨by have:=h.2.2;omega,h.2.1⟩
 ·have h:=(hok i).1
  unfold bod at h;dsimp only at h;omega
 ·rw[hK.has]
  exact fZ_ W W' hK _ hR a ha
 ·rw[hK.has]
  exact fZ_ W W' hK _ hR b hb
 ·rw[hK.has];exact ha
 ·rw[hK.has];exact hb
 ·have:=hsz a.1;show a.2<=_;omega
 ·have:=hsz b.1;show b.2<=_;omega
structure nG_(w W W':World)(X X':Tw)(v:Value)(m':aa_)(rs:List Rec):Prop where
 tw:be_ w W' X'
 tb:X'.tb=X.tb
 bs:X'.T.bs=X.T.bs
 st:X'.T.st=X.T.st
 pos:∀i,i<X.m.length->X'.pos i=X.pos i
 m:X'.m=m'
 M:X'.M.m=m'
 recs:ax_ X'.T X'.pos W.heap.size W' v rs
 fr:H.Frame X.foot W W'
theorem did_{w W:World}{X:Tw}(h:be_ w W X)(g:Good X){o:G.Op}(hs:o.s.length<=40)(ht:o.t.length<=40)(hf:o.fits)(hT:fi_ w) :
  Calls Tryz.prog 24 #[.pointer (some ⟨X.tb,0,none⟩),opV o] W fun e W'=>∃v X',e=.returned (.tuple #[v,.bool true])/\nG_ w W W' X X' v (G.step (some 64) X.m o).2.2 (G.step (some 64) X.m o).1:=by
 have hl:G.step (some 64) X.m o=G.step none X.m o:=i9_ (fun j=>by have:=g.attrs j;omega);have hF:Fit w { X with wD:=W,D:=X.foot } o 60:=by
  refine⟨by have:=g.len;show X.m.length<=_;omega,g.ok,by show du_ (cT_ 60) X.M.m;rw[g.mm];exact g.ok,by omega,hs,ht,hf.2.1,hf.2.2,hf.1,hT,Or.inl ?_,?_⟩
  ·show(G.step (some 64) X.m o).1=(G.step none X.M.m o).1
   rw[g.mm,hl]
  ·show Sim (G.step (some 64) X.m o).2.2 (G.step none X.M.m o).2.2
   rw[g.mm,hl];exact Sim.refl _
 refine(do_ w W { X with wD:=W,D:=X.foot } o 60 h.now hF).mono ?_;rintro e W' ⟨v,b,X',rfl,hX',hk,hb,hst,hp,hm,hM,hr,hbb⟩;have hm:X'.m=(G.step (some 64) X.m o).2.2:=hm;have hM:X'.M.m=(G.step none X.M.m o).2.2:=hM;have hbt:b=true:=hbb (by show(G.step (some 64) X.m o).1=(G.step none X.M.m o).1;rw[g.mm,hl]) (by show(G.step (some 64) X.m o).2.1=(G.step none X.M.m o).2.1;rw[g.mm,hl]);subst hbt;have hkey:(X'.tb,X'.wD,X'.D)=(X.tb,W,X.foot):=hk;injection hkey with k1 k2
 injection k2 with k2 k3
 have hfr:=hX'.fr;rw[k2,k3]at hfr;exact⟨v,X',rfl,hX',k1,hb,hst,hp,hm,by rw[hM,g.mm,<-hl],hr,hfr⟩
theorem nG_.hd{w W W':World}{X X':Tw}{v:Value}{m':aa_}{rs:List Rec}(h:nG_ w W W' X X' v m' rs){i:Nat}(hi:has X.m i=true):A.hd X'.T X'.pos i=A.hd X.T X.pos i:=by
 unfold A.hd;rw[h.bs,h.st,h.pos i (aR_ hi)]
end A
end
section
open Go.RowKit Go.Sort
namespace A
open H G R
structure MvT(w W:World)(X:Tw)(S:bh_)(gA gB:Nat)(p q:Nat×Nat):Prop where
 tw:∃wd d,be_ w W { X with wD:=wd,D:=d }
 set:as_ W S
 sl:∀k,S.foot k->w.heap.size<=k
 A:Blk gA #[.int .i64 p.1,.int .i64 p.2] 30 W
 B:Blk gB #[.int .i64 q.1,.int .i64 q.2] 30 W
 la:w.heap.size<=gA
 lb:w.heap.size<=gB
section
variable {w W W':World} {X:Tw} {S:bh_} {gA gB:Nat} {p q:Nat×Nat} {D:Nat->Prop}
theorem MvT.bel(h:MvT w W X S gA gB p q):Below w.heap.size w W:=by obtain⟨_,_,t⟩:=h.tw;exact t.bel
theorem MvT.tree(h:MvT w W X S gA gB p q):aj_ W X.T X.m X.pos:=by obtain⟨_,_,t⟩:=h.tw;exact t.tree
theorem MvT.model(h:MvT w W X S gA gB p q):ab_ W X.M:=by obtain⟨_,_,t⟩:=h.tw;exact t.model
theorem MvT.blk(h:MvT w W X S gA gB p q):Blk X.tb #[.pointer (some ⟨X.T.tb,0,none⟩),.pointer (some ⟨X.M.mb,0,none⟩),X.hv] 41 W:=by obtain⟨_,_,t⟩:=h.tw;exact t.blk
theorem MvT.below(h:MvT w W X S gA gB p q)(b:Below W.heap.size W W'):MvT w W' X S gA gB p q:=by
 obtain⟨wd,d,t⟩:=h.tw;exact⟨⟨wd,d,t.below b⟩,h.set.below b,h.sl,h.A.below b,h.B.below b,h.la,h.lb⟩
theorem MvT.frameT(h:MvT w W X S gA gB p q)(f:H.Frame D W W')(hD:∀k,D k->∃t,(t∉eP_/\t∉eq_/\t≠30)/\Typed W k t)(hl:∀k,D k->w.heap.size<=k):MvT w W' X S gA gB p q:=by
 obtain⟨wd,d,t⟩:=h.tw;have hn:∀{g:Nat} {cs:Array Value},Blk g cs 30 W->¬D g:=fun hb hd=>by
  obtain⟨t,ht,h1⟩:=hD _ hd;exact ht.2.2 (h1.eq ⟨_,hb⟩)
 exact⟨⟨_,_,t.frameT f (fun k hk=>by obtain⟨t,ht,h1⟩:=hD k hk;exact⟨t,ht.1,h1⟩) hl⟩,h.set.frameT f (fun k hk=>by obtain⟨t,ht,h1⟩:=hD k hk;exact⟨t,ht.2.1,h1⟩),h.sl,h.A.frame f (hn h.A),h.B.frame f (hn h.B),h.la,h.lb⟩
theorem MvT.put(h:MvT w W X S gA gB p q){S':bh_}(f:H.Frame S.foot W W')(hs:as_ W' S')(hf:S'.foot=S.foot):MvT w W' X S' gA gB p q:=by
 obtain⟨wd,d,t⟩:=h.tw;exact⟨⟨_,_,t.frame h.set f h.sl⟩,hs,by rw[hf];exact h.sl,h.A.frame f (ca_ h.set h.A (by decide)),h.B.frame f (ca_ h.set h.B (by decide)),h.la,h.lb⟩
theorem fp_(W:World)(g:Nat)(u v:Value):H.Frame (fun k=>k=g) W ((W.setCell ⟨g,0,none⟩ u).setCell ⟨g,1,none⟩ v):=Frame.set (S:=fun k=>k=g) (Frame.set (S:=fun k=>k=g) (H.Frame.refl _ W) (g:=g) (Or.inl rfl) 0 u) (g:=g) (Or.inl rfl) 1 v
theorem MvT.putA(h:MvT w W X S gA gB p q)(hne:gA≠gB)(p':Nat×Nat):MvT w ((W.setCell ⟨gA,0,none⟩ (.int .i64 p'.1)).setCell ⟨gA,1,none⟩ (.int .i64 p'.2)) X S gA gB p' q:=by
 obtain⟨wd,d,t⟩:=h.tw;have f:=fp_ W gA (.int .i64 p'.1) (.int .i64 p'.2);exact⟨⟨_,_,t.frameT f (fun k hk=>⟨30,by decide,by subst hk;exact⟨_,h.A⟩⟩) (fun k hk=>by rw[hk];exact h.la)⟩,h.set.frameT f (fun k hk=>⟨30,by decide,by subst hk;exact⟨_,h.A⟩⟩),h.sl,ei_ h.A _ _,h.B.frame f (fun e=>hne e.symm),h.la,h.lb⟩
theorem MvT.putB(h:MvT w W X S gA gB p q)(hne:gA≠gB)(q':Nat×Nat):MvT w ((W.setCell ⟨gB,0,none⟩ (.int .i64 q'.1)).setCell ⟨gB,1,none⟩ (.int .i64 q'.2)) X S gA gB p q':=by
 obtain⟨wd,d,t⟩:=h.tw;have f:=fp_ W gB (.int .i64 q'.1) (.int .i64 q'.2);exact⟨⟨_,_,t.frameT f (fun k hk=>⟨30,by decide,by subst hk;exact⟨_,h.B⟩⟩) (fun k hk=>by rw[hk];exact h.lb)⟩,h.set.frameT f (fun k hk=>⟨30,by decide,by subst hk;exact⟨_,h.B⟩⟩),h.sl,h.A.frame f hne,ei_ h.B _ _,h.la,h.lb⟩
theorem MvT.did(h:MvT w W X S gA gB p q)(g:Good X){o:G.Op}(hs:o.s.length<=40)(ht:o.t.length<=40)(hf:o.fits)(hT:fi_ w) :
  Calls Tryz.prog 24 #[.pointer (some ⟨X.tb,0,none⟩),opV o] W fun e W'=>∃v X',e=.returned (.tuple #[v,.bool true])/\MvT w W' X' S gA gB p q/\X'.tb=X.tb/\X'.m=(G.step (some 64) X.m o).2.2/\X'.M.m=(G.step (some 64) X.m o).2.2 ∧
   ax_ X'.T X'.pos W.heap.size W' v (G.step (some 64) X.m o).1/\∀i,has X.m i=true->hd X'.T X'.pos i=hd X.T X.pos i:=by
 obtain⟨wd,d,t⟩:=h.tw;have g':Good { X with wD:=wd,D:=d }:=⟨g.mm,g.whole,g.attrs,g.ok,g.len⟩;refine(did_ t g' hs ht hf hT).mono ?_;rintro e W' ⟨v,X',rfl,hd⟩;refine⟨v,X',rfl,⟨⟨X'.wD,X'.D,hd.tw⟩,h.set.frame hd.fr (fun k hk hx=>dd_ t h.set (Or.inl hx) hk),h.sl,h.A.frame hd.fr (gL_ t h.A (by decide)),h.B.frame hd.fr (gL_ t h.B (by decide)),h.la,h.lb⟩,hd.tb,hd.m,hd.M,hd.recs,fun i hi=>nG_.hd hd hi⟩
theorem MvT.update{m0:aa_}{sb:Nat}{ao:Option Addr}{cap:Nat}{R:Rg}{base:Nat}{v:Value}{rs:List Rec}(h:MvT w W X (bh_.one sb ao cap R) gA gB p q)(hR:R=mkR X.T X.pos (1,p,q))(hv:ax_ X.T X.pos base W v rs)(F:iY_ m0 X.m rs p q) :
  Calls Tryz.prog 25 #[.pointer (some ⟨sb,0,none⟩),.pointer (some ⟨X.T.tb,0,none⟩),v] W fun e W'=>e=.returned (.tuple #[])/\MvT w W' X (bh_.one sb ao cap (mkR X.T X.pos (c0_ X.m rs (1,p,q)))) gA gB p q/\ax_ X.T X.pos base W' v rs:=by
 refine(update_ X.T X.m X.pos (bh_.one sb ao cap R) [(1,p,q)] base v rs W h.tree h.set hv rfl (by rw[hR];rfl) F.rcs (by have:=F.few;omega) (fun x hx=>by obtain rfl:x=(1,p,q):=(by simpa using hx);exact F.pin)).mono ?_;rintro e W' ⟨rfl,hf,hs⟩;refine⟨rfl,h.put hf hs rfl,ah_ hv hf (fun g hg hS=>?_)⟩;obtain⟨cs,hc⟩:=aV_ hv hg;exact ca_ h.set hc (by decide) hS
theorem MvT.record(h:MvT w W X S gA gB p q)(hl:X.m.length<=2000)(r:Rec) :
  Calls Tryz.prog 26 #[.pointer (some ⟨X.tb,0,none⟩),nU_ X.T X.pos r] W fun e W'=>e=.returned (mrV X r)/\Below W.heap.size W W':=by
 obtain⟨wd,d,t⟩:=h.tw;exact record_ t hl r
theorem MvT.num(h:MvT w W X S gA gB p q){i:Nat}(hi:has X.m i=true):numOf X (hd X.T X.pos i)=(i:Int):=by
 obtain⟨wd,d,t⟩:=h.tw;exact mU_ t hi
theorem MvT.handle(h:MvT w W X S gA gB p q):∃g cap,X.hv=.slice (some ⟨g,0,none⟩) X.m.length cap/\g<W.heap.size/\∀i,has X.m i=true->W.cell? ⟨g,i,none⟩=some (.int .i64 (hd X.T X.pos i)):=by
 obtain⟨wd,d,t⟩:=h.tw;obtain⟨g,cap,e,hl,_,hc⟩:=t.toMid.cells t.pos_len;refine⟨g,cap,e,hl,fun i hi=>?_⟩;have h1:=(hc i (aR_ hi)).1;rw[h1];exact congrArg (fun z=>some (Value.int .i64 z)) (cE_ (X:=X) hi)
end
theorem rgV_mk(T:am_)(pos:Nat->Nat)(x:Int×(Nat×Nat)×(Nat×Nat)):rgV (mkR T pos x)=.agg #[.int .i64 x.1,.int .i64 (hd T pos x.2.1.1),.int .i64 x.2.1.2,.int .i64 (hd T pos x.2.2.1),.int .i64 x.2.2.2]:=rfl
end A
end
section
open Go.RowKit Go.Sort
namespace A
open H G R
theorem mj_{w:World}{g:Nat}{t:TypeId}{a0 a1 a2 a3:Value}(h:Blk g #[a0,a1,a2,a3] t w):w.cell? ⟨g,0,none⟩=some a0/\w.cell? ⟨g,1,none⟩=some a1/\w.cell? ⟨g,2,none⟩=some a2/\w.cell? ⟨g,3,none⟩=some a3:=⟨(ad_ h).1 0,(ad_ h).1 1,(ad_ h).1 2,(ad_ h).1 3⟩
def fQ_(o:G.Op):G.Op:={ o with kind:=3+o.kind % 5 }
theorem iI_{o:G.Op}(h:o.fits):(fQ_ o).fits:=⟨⟨by show 3+o.kind % 5<256;omega,h.1.2⟩,h.2⟩
theorem iH_(o:G.Op):3<=(fQ_ o).kind % 10/\(fQ_ o).kind % 10<8:=by
 show 3<=(3+o.kind % 5) % 10/\(3+o.kind % 5) % 10<8;omega
theorem lC_{w:World}{g:Nat}{t:TypeId}{a0 a1 a2 a3 a4 a5 a6 a7 a8 a9 a10:Value}(h:Blk g #[a0,a1,a2,a3,a4,a5,a6,a7,a8,a9,a10] t w) :
  (∀d:Later w.heap.size w,d.w.cell? ⟨g,0,none⟩=some a0)/\(∀d:Later w.heap.size w,d.w.cell? ⟨g,1,none⟩=some a1)/\(∀d:Later w.heap.size w,d.w.cell? ⟨g,2,none⟩=some a2)/\(∀d:Later w.heap.size w,d.w.cell? ⟨g,3,none⟩=some a3)/\(∀d:Later w.heap.size w,d.w.cell? ⟨g,4,none⟩=some a4)/\(∀d:Later w.heap.size w,d.w.cell? ⟨g,5,none⟩=some a5)/\(∀d:Later w.heap.size w,d.w.cell? ⟨g,6,none⟩=some a6)/\(∀d:Later w.heap.size w,d.w.cell? ⟨g,7,none⟩=some a7)/\(∀d:Later w.heap.size w,d.w.cell? ⟨g,8,none⟩=some a8)/\(∀d:Later w.heap.size w,d.w.cell? ⟨g,9,none⟩=some a9)/\∀d:Later w.heap.size w,d.w.cell? ⟨g,10,none⟩=some a10:=by
 have hc:=(ad_ h).1;have hl:=h.lt;exact⟨fun d=>Later.cell (hc 0) hl d,fun d=>Later.cell (hc 1) hl d,fun d=>Later.cell (hc 2) hl d,fun d=>Later.cell (hc 3) hl d,fun d=>Later.cell (hc 4) hl d,fun d=>Later.cell (hc 5) hl d,fun d=>Later.cell (hc 6) hl d,fun d=>Later.cell (hc 7) hl d,fun d=>Later.cell (hc 8) hl d,fun d=>Later.cell (hc 9) hl d,fun d=>Later.cell (hc 10) hl d⟩
theorem lB_{w:World}{g:Nat}{t:TypeId}{a b c:Value}(h:Blk g #[a,b,c] t w):(∀d:Later w.heap.size w,d.w.cell? ⟨g,0,none⟩=some a)/\(∀d:Later w.heap.size w,d.w.cell? ⟨g,1,none⟩=some b)/\∀d:Later w.heap.size w,d.w.cell? ⟨g,2,none⟩=some c:=
 ⟨fun d=>Later.cell ((ad_ h).1 0) h.lt d,fun d=>Later.cell ((ad_ h).1 1) h.lt d,fun d=>Later.cell ((ad_ h).1 2) h.lt d⟩
theorem later5{w:World}{g:Nat}{t:TypeId}{a b c e f:Value}(h:Blk g #[a,b,c,e,f] t w):(∀d:Later w.heap.size w,d.w.cell? ⟨g,0,none⟩=some a)/\(∀d:Later w.heap.size w,d.w.cell? ⟨g,1,none⟩=some b)/\(∀d:Later w.heap.size w,d.w.cell? ⟨g,2,none⟩=some c)/\(∀d:Later w.heap.size w,d.w.cell? ⟨g,3,none⟩=some e)/\∀d:Later w.heap.size w,d.w.cell? ⟨g,4,none⟩=some f:=
 ⟨fun d=>Later.cell ((ad_ h).1 0) h.lt d,fun d=>Later.cell ((ad_ h).1 1) h.lt d,fun d=>Later.cell ((ad_ h).1 2) h.lt d,fun d=>Later.cell ((ad_ h).1 3) h.lt d,fun d=>Later.cell ((ad_ h).1 4) h.lt d⟩
theorem gI_{m:aa_}{rs:List Rec}{n:Nat}(hn:n<rs.length)(q:Nat×Nat):b0_ m (rs.take (n+1)) q=bc_ m rs[n] (b0_ m (rs.take n) q):=by
 rw[show rs.take (n+1)=rs.take n++[rs[n]] by rw[List.take_add_one,List.getElem?_eq_getElem hn];rfl,eY_]
theorem mid_in{m0 m:aa_}{rs:List Rec}{x y:Nat×Nat}(F:iY_ m0 m rs x y){n:Nat}(hn:n<=rs.length):PtIn m 1000000000 (1,b0_ m (rs.take n) x,b0_ m (rs.take n) y):=by
 have h:=hT_ (m:=m) (P:=[(1,x,y)]) (fun z hz=>by obtain rfl:z=(1,x,y):=(by simpa using hz);exact F.pin) F.rcs n hn (by have:=F.few;omega) (1,b0_ m (rs.take n) x,b0_ m (rs.take n) y) (by simp[c0_]);have h1:=h.ka;have h2:=h.kb;have:=F.few;exact⟨h.ha,h.hb,by show _<=1000000000;omega,by show _<=1000000000;omega⟩
theorem Moves(os:List G.Op)(v:Value)(p q p2 q2:Nat)(o:G.Op)(w:World)(h:f8_ w v os)(hl:os.length<=9223372036854775807)(hf:∀o,o∈os->o.fits)(ht:fi_ w)(hp:p<256)(hq:q<256)(hp2:p2<256)(hq2:q2<256)(hof:o.fits) :
  Calls Tryz.prog 6 #[v,.agg #[.int .u8 p,.int .u8 q,.int .u8 p2,.int .u8 q2],.agg #[.int .u8 o.kind,.int .u8 o.a,.int .u8 o.b,.int .u8 o.c,.string ⟨o.s.toArray⟩,.string ⟨o.t.toArray⟩,.int .i8 o.n,.int .i8 o.k]] w fun e w'=>e=.returned (.bool true)/\Below w.heap.size w w':=by
 have hb1:=((Below.refl w.heap.size w).alloc (nl_) (.cells #[.int .u8 p,.int .u8 q,.int .u8 p2,.int .u8 q2] 62)).alloc (by simp) (.cells #[.int .u8 o.kind,.int .u8 o.a,.int .u8 o.b,.int .u8 o.c,.string ⟨o.s.toArray⟩,.string ⟨o.t.toArray⟩,.int .i8 o.n,.int .i8 o.k] 65);have HX1:=hi_ ((Blk.new w #[.int .u8 p,.int .u8 q,.int .u8 p2,.int .u8 q2] 62).alloc (.cells #[.int .u8 o.kind,.int .u8 o.a,.int .u8 o.b,.int .u8 o.c,.string ⟨o.s.toArray⟩,.string ⟨o.t.toArray⟩,.int .i8 o.n,.int .i8 o.k] 65));have HX2:=hi_ (Blk.new (w.alloc (.cells #[.int .u8 p,.int .u8 q,.int .u8 p2,.int .u8 q2] 62)) #[.int .u8 o.kind,.int .u8 o.a,.int .u8 o.b,.int .u8 o.c,.string ⟨o.s.toArray⟩,.string ⟨o.t.toArray⟩,.int .i8 o.n,.int .i8 o.k] 65)
 simp only[World.size_alloc]at HX2;have HB1:=hi_ hb1;have HO:=hi_ h;have HF:=hi_ hf;have HT:=hi_ ht;have HOf:=hi_ hof;have QA:=hi_ (fun W=>awake9 W);have QF:=hi_ (fun W (hW:Below w.heap.size w W)=>few_ os v W (h.below hW) hl);have QS:=hi_ (fun W (hW:Below w.heap.size w W) (hfw:few os=true)=>start_ os v W (h.below hW) hfw hf (Go.Proofs.YtinphfpdfodkkaaGreatDoor.T.Tabs.below ht hW));have QP:=hi_ (fun(a b:Nat) (ha:a<256) (hb:b<256) (X:Tw) (w0 W:World) (hX:be_ w0 W X) (g:Good X)=>point_ w0 W X a b hX g.mm g.whole (by have:=g.len;omega) ha hb);clear h hf ht hb1 hof
 go_enter Tryz.func6,Tryz.ntmps6
 go_upto_region 1 with fail
 generalize (w.alloc (.cells #[.int .u8 p,.int .u8 q,.int .u8 p2,.int .u8 q2] 62)).alloc (.cells #[.int .u8 o.kind,.int .u8 o.a,.int .u8 o.b,.int .u8 o.c,.string ⟨o.s.toArray⟩,.string ⟨o.t.toArray⟩,.int .i8 o.n,.int .i8 o.k] 65)=w1 at *;go_wp2_with fail
 refine(QA.out _).mono ?_;rintro e w2 ⟨rfl,hb2⟩;have HB2:=bt_ HB1 hb2;have HY1:=hi_ (HX1.out.below hb2);have HY2:=hi_ (HX2.out.below hb2);clear hb2 HX1 HX2;have QFw:=hi_ (QF.out w2 HB2.out);have HFw:Hid (few os=few os):=hi_ rfl;generalize hfw:few os=fw at *;have HFw2:=hi_ hfw;clear hfw HFw;go_wp2_with fail
 refine QFw.out.mono ?_;rintro e w3 ⟨rfl,rfl⟩;obtain⟨y0,y1,y2,y3,y4,y5,y6,y7⟩:=a8_ HY2.out;clear y0 y1 y2 y3 y6 y7
 cases fw with
 |false=>
  go_wp2_with fail
  refine(QA.out _).mono ?_;rintro e w4 ⟨rfl,hb4⟩;have HB4:=bt_ HB2 hb4;clear hb4;go_wp2_with fail
  go_ret
  exact⟨rfl,HB4.out⟩
 |true=>
  by_cases hs4:o.s.length<=40
  case neg=>
   have s1:decide (((o.s.length:Nat):Int) > 40)=true:=decide_eq_true (by omega);have s2:(40:Int)<((o.s.length:Nat):Int):=by omega
   have s3:decide ((40:Int)<((o.s.length:Nat):Int))=true:=decide_eq_true s2;have s4:40<o.s.length:=by omega
   have s5:decide (40<o.s.length)=true:=decide_eq_true s4;go_wp2_with fail
   refine(QA.out _).mono ?_;rintro e w4 ⟨rfl,hb4⟩;have HB4:=bt_ HB2 hb4;clear hb4;go_wp2_with fail
   go_ret
   exact⟨rfl,HB4.out⟩
  have s1:decide (((o.s.length:Nat):Int) > 40)=false:=decide_eq_false (by omega);have s2:¬(40:Int)<((o.s.length:Nat):Int):=by omega
  have s3:decide ((40:Int)<((o.s.length:Nat):Int))=false:=decide_eq_false s2;have s4:¬40<o.s.length:=by omega
  have s5:decide (40<o.s.length)=false:=decide_eq_false s4
  by_cases ht4:o.t.length<=40
  case neg=>
   have t1:decide (((o.t.length:Nat):Int) > 40)=true:=decide_eq_true (by omega);have t2:(40:Int)<((o.t.length:Nat):Int):=by omega
   have t3:decide ((40:Int)<((o.t.length:Nat):Int))=true:=decide_eq_true t2;have t4:40<o.t.length:=by omega
   have t5:decide (40<o.t.length)=true:=decide_eq_true t4;go_wp2_with fail
   refine(QA.out _).mono ?_;rintro e w4 ⟨rfl,hb4⟩;have HB4:=bt_ HB2 hb4;clear hb4;go_wp2_with fail
   go_ret
   exact⟨rfl,HB4.out⟩
  have t1:decide (((o.t.length:Nat):Int) > 40)=false:=decide_eq_false (by omega);have t2:¬(40:Int)<((o.t.length:Nat):Int):=by omega
  have t3:decide ((40:Int)<((o.t.length:Nat):Int))=false:=decide_eq_false t2;have t4:¬40<o.t.length:=by omega
  have t5:decide (40<o.t.length)=false:=decide_eq_false t4;have HS4:=hi_ (⟨hs4,ht4⟩:_/\_);have QSt:=hi_ (QS.out w2 HB2.out rfl);go_wp2_with fail
  refine QSt.out.mono ?_;rintro e w4 ⟨X,rfl,hX,hG⟩;have HX:=hi_ hX;have HG:=hi_ hG;have HW4:=bt_ HB2 hX.bel;have HX1:=hi_ (HY1.out.below hX.bel);have HO1:=hi_ (HY2.out.below hX.bel);have HBs:=hi_ HB2.out;clear hX hG QSt QS QFw QF HY1 HY2 HB1 HB2 HF HO HFw2 y4 y5 s1 s2 s3 s4 s5 t1 t2 t3 t4 t5 hs4 ht4;go_upto_region 5 with fail
  have HD5:=hi_ ((Below.refl w4.heap.size w4).alloc (nl_) (.cells #[.slice none 0 0,.slice none 0 0,.int .i64 0] 50));have HS5:=hi_ (as_.new w4);have HX2:=hi_ (HX1.out.below HD5.out);have HLo:Hid (∀(u:Nat) b,(bh_.zero w4.heap.size).foot b->w4.heap.size<=b):=hi_ (fun _ b hb=>bh_.zero_foot hb);generalize w4.alloc (.cells #[.slice none 0 0,.slice none 0 0,.int .i64 0] 50)=w5 at *;clear HX1;obtain⟨b0,b1,b2,b3⟩:=mj_ HX2.out;have QP1:=hi_ (QP.out p q hp hq X _ w5 (HX.out.below HD5.out) HG.out);unfold le_ bI_ at QP1;go_wp2_with fail
  refine QP1.out.mono ?_;rintro e w6 ⟨rfl,hb6⟩;have HD6:=bt_ HD5 hb6;have HS6:=hi_ (HS5.out.below hb6);have HX3:=hi_ (HX2.out.below hb6);have HLa:=hi_ (Nat.le_trans HW4.out.size HD6.out.size);clear hb6 HD5 HS5 HX2 b0 b1 b2 b3 QP1;go_upto_region 6 with fail
  obtain⟨hbp,hpA,hpB⟩:=kL_ w6 (bd_ X.m p) (db_ X.m p q) (hv1 X.T X.pos X.m (bd_ X.m p));have HD7:=bt_ HD6 hbp;have HS7:=hi_ (HS6.out.below hbp);have HX4:=hi_ (HX3.out.below hbp);have HA7:=hi_ hpA;have HP7:=hi_ hpB;clear hbp hpA hpB HD6 HS6 HX3;generalize (w6.alloc (.cells #[.int .i64 (bd_ X.m p:Nat),.int .i64 (db_ X.m p q:Nat)] 30)).alloc (.cells #[.int .i64 (hv1 X.T X.pos X.m (bd_ X.m p)),.int .i64 (db_ X.m p q:Nat)] 31)=w7 at *;obtain⟨b0,b1,b2,b3⟩:=mj_ HX4.out;have QP2:=hi_ (QP.out p2 q2 hp2 hq2 X _ w7 (HX.out.below HD7.out) HG.out);unfold le_ bI_ at QP2;go_wp2_with fail
  refine QP2.out.mono ?_;rintro e w8 ⟨rfl,hb8⟩;have HD8:=bt_ HD7 hb8;have HS8:=hi_ (HS7.out.below hb8);have HA8:=hi_ (HA7.out.below hb8);have HP8:=hi_ (HP7.out.below hb8);clear hb8 HD7 HS7 HA7 HP7 HX4 b0 b1 b2 b3 QP2 QP;have HLb:=hi_ (Nat.le_trans HW4.out.size HD8.out.size);have HNe:Hid (w6.heap.size≠w8.heap.size):=hi_ (Nat.ne_of_lt HA8.out.lt);go_upto_region 7 with fail
  obtain⟨hbp,hpA,hpB⟩:=kL_ w8 (bd_ X.m p2) (db_ X.m p2 q2) (hv1 X.T X.pos X.m (bd_ X.m p2));have HK9:Hid (Stg w4 _ (bh_.zero w4.heap.size) w6.heap.size (w6.heap.size+1) w8.heap.size (w8.heap.size+1) (bd_ X.m p) (db_ X.m p q) (bd_ X.m p2) (db_ X.m p2 q2) (hv1 X.T X.pos X.m (bd_ X.m p)) (hv1 X.T X.pos X.m (bd_ X.m p2))):=hi_ ⟨HD8.out.trans (hbp.mono HD8.out.size),HS8.out.below hbp,HA8.out.below hbp,HP8.out.below hbp,hpA,hpB⟩;clear hbp hpA hpB HD8 HS8 HA8 HP8;generalize (w8.alloc (.cells #[.int .i64 (bd_ X.m p2:Nat),.int .i64 (db_ X.m p2 q2:Nat)] 30)).alloc (.cells #[.int .i64 (hv1 X.T X.pos X.m (bd_ X.m p2)),.int .i64 (db_ X.m p2 q2:Nat)] 31)=w9 at *;have hW:=HX.out.tree.fits.wf;have hna:=jc_ hW p;have hnb:=jc_ hW p2;have hmm:=HG.out.mm;have hsm:=HG.out.small
  have hml:X.M.nodes.length=X.m.length:=by rw[<-X.M.m_len,hmm]
  have hsz:=fun i=>cJ_ hW HG.out.whole (by have:=HG.out.len;omega) i;have QH1:=hi_ (fun W (hM:ab_ W X.M)=>gf_ X.M (bd_ X.m p) W hM);have QH2:=hi_ (fun W (hM:ab_ W X.M)=>gf_ X.M (bd_ X.m p2) W hM);have QT1:=hi_ (fun W (hM:ab_ W X.M)=>mTop X.M (bd_ X.m p) W hM (by rw[hmm];exact hW) (by rw[hml];exact hna));have QT2:=hi_ (fun W (hM:ab_ W X.M)=>mTop X.M (bd_ X.m p2) W hM (by rw[hmm];exact hW) (by rw[hml];exact hnb))
  have QR0:=hi_ (fun W (hM:ab_ W X.M) (ha:has X.m (bd_ X.m p)=true) (hb:has X.m (bd_ X.m p2)=true) (ht:top X.m (bd_ X.m p)=top X.m (bd_ X.m p2))=>m4_ X.M (bd_ X.m p,db_ X.m p q) (bd_ X.m p2,db_ X.m p2 q2) W hM (by rw[hmm];exact hW) (by rw[hmm];exact HG.out.whole) (by rw[hmm];have:=HG.out.len;omega) (by rw[hmm];exact⟨hna,eQ_ ha⟩) (by rw[hmm];exact⟨hnb,eQ_ hb⟩) (by rw[hmm];exact ht));have HRc:=hi_ (fun(ha:has X.m (bd_ X.m p)=true) (hb:has X.m (bd_ X.m p2)=true) (ht:top X.m (bd_ X.m p)=top X.m (bd_ X.m p2))=>m6_ hW (a:=(bd_ X.m p,db_ X.m p q)) (b:=(bd_ X.m p2,db_ X.m p2 q2)) ⟨hna,eQ_ ha⟩ ⟨hnb,eQ_ hb⟩ ht);have HKa:=hi_ (fun(ha:has X.m (bd_ X.m p)=true)=>eQ_ (q:=q) ha)
  have HKb:=hi_ (fun(hb:has X.m (bd_ X.m p2)=true)=>eQ_ (q:=q2) hb);rw[hmm]at QH1 QH2 QT1 QT2 QR0;generalize db_ X.m p q=i at *;generalize db_ X.m p2 q2=j at *;generalize bd_ X.m p=a at *;generalize bd_ X.m p2=b at *;clear hp hq hp2 hq2 hna hnb hmm hml
  cases hha:has X.m a with
  |false=>
   rw[hha]at QH1;clear QR0 HRc HKa HKb hha hsm hsz hW;have HX9:=hi_ (HX.out.below HK9.out.D);obtain⟨⟨c0,c1,Dc0,Dc1⟩,⟨a0,a1,Da0,Da1⟩,⟨b0,b1,Db0,Db1⟩,⟨p0,p1,Dp0,Dp1⟩,⟨q0,q1,Dq0,Dq1⟩,y0,Dy0⟩:=HK9.out.cells HX9.out.blk;dsimp only[bh_.zero]at y0 Dy0;go_wp2_with fail
   refine af_ (by kernel_rfl) (by kernel_rfl) ?_;repeat (go_big_quiet_step ((first|(go_at_call_of 14 (Value.int .i64 ((a:Nat):Int));with_reducible exact Calls.later_same (QH1.out _ ((HX9.out.below (Later.h _)).model)))|(go_at_call 14;with_reducible exact Calls.later_same (QH2.out _ ((HX9.out.below (Later.h _)).model)))|(go_at_call_of 15 (Value.int .i64 ((a:Nat):Int));with_reducible exact Calls.later_same (QT1.out _ ((HX9.out.below (Later.h _)).model)))|(go_at_call 15;with_reducible exact Calls.later_same (QT2.out _ ((HX9.out.below (Later.h _)).model)))|(go_at_call 16;exact Calls.later (QR.out _ ((HX9.out.below (Later.h _)).model))))))
   refine wq_ (fun dq=>?_);have HK10:=hi_ (HK9.out.below dq.h);clear Dc0 Dc1 Da0 Da1 Db0 Db1 Dp0 Dp1 Dq0 Dq1 Dy0 a0 a1 b0 b1 p0 p1 q0 q1 c0 c1 y0;clear HK9;generalize dq.w=w10 at *;clear dq;have HWk:=bt_ HW4 HK10.out.D;go_wp2_with fail
   go_ret
   exact⟨rfl,HWk.out⟩
  |true=>
   rw[hha]at QH1
   cases hhb:has X.m b with
   |false=>
    rw[hhb]at QH2;clear QR0 HRc HKa HKb hha hhb hsm hsz hW;have HX9:=hi_ (HX.out.below HK9.out.D);obtain⟨⟨c0,c1,Dc0,Dc1⟩,⟨a0,a1,Da0,Da1⟩,⟨b0,b1,Db0,Db1⟩,⟨p0,p1,Dp0,Dp1⟩,⟨q0,q1,Dq0,Dq1⟩,y0,Dy0⟩:=HK9.out.cells HX9.out.blk;dsimp only[bh_.zero]at y0 Dy0;go_wp2_with fail
    refine af_ (by kernel_rfl) (by kernel_rfl) ?_;repeat (go_big_quiet_step ((first|(go_at_call_of 14 (Value.int .i64 ((a:Nat):Int));with_reducible exact Calls.later_same (QH1.out _ ((HX9.out.below (Later.h _)).model)))|(go_at_call 14;with_reducible exact Calls.later_same (QH2.out _ ((HX9.out.below (Later.h _)).model)))|(go_at_call_of 15 (Value.int .i64 ((a:Nat):Int));with_reducible exact Calls.later_same (QT1.out _ ((HX9.out.below (Later.h _)).model)))|(go_at_call 15;with_reducible exact Calls.later_same (QT2.out _ ((HX9.out.below (Later.h _)).model)))|(go_at_call 16;exact Calls.later (QR.out _ ((HX9.out.below (Later.h _)).model))))))
    refine wq_ (fun dq=>?_);have HK10:=hi_ (HK9.out.below dq.h);clear Dc0 Dc1 Da0 Da1 Db0 Db1 Dp0 Dp1 Dq0 Dq1 Dy0 a0 a1 b0 b1 p0 p1 q0 q1 c0 c1 y0;clear HK9;generalize dq.w=w10 at *;clear dq;have HWk:=bt_ HW4 HK10.out.D;go_wp2_with fail
    go_ret
    exact⟨rfl,HWk.out⟩
   |true=>
    rw[hhb]at QH2
    by_cases ht:top X.m a=top X.m b
    ·have QR:=hi_ (fun W (hM:ab_ W X.M)=>QR0.out W hM hha hhb ht)
     rw[<-HRc.out hha hhb ht]at QR;have te2:(((top X.m a:Nat):Int)==((top X.m b:Nat):Int))=true:=by rw[ht];exact beq_self_eq_true _
     have te3:(((top X.m a:Nat):Int) != ((top X.m b:Nat):Int))=false:=by rw[ht];simp
     have te4:((top X.m a:Nat):Int)=((top X.m b:Nat):Int):=by rw[ht]
     by_cases hc:lcmp X.m (a,i) (b,j)<=0
     ·have hka:=HKa.out hha
      have hkb:=HKb.out hhb;have hszA:=hsz a;have hszB:=hsz b;have hza:hv1 X.T X.pos X.m a=hd X.T X.pos a:=cE_ hha;have hzb:hv1 X.T X.pos X.m b=hd X.T X.pos b:=cE_ hhb;have hpa:n9_ X.T X.m X.pos (hd X.T X.pos a) (i:Nat) 0:=Or.inl ⟨a,hha,rfl,by rw[if_pos (eU_ hka)]⟩;have HMF:=hi_ (fun(o':G.Op) (hk:3<=o'.kind % 10/\o'.kind % 10<8) (h40:o'.t.length<=40)=>mW_ HG.out hW hk h40 (a:=(a,i)) (b:=(b,j)) hha hhb hka hkb ht hc);have HHh:=hi_ (⟨hha,hhb⟩:_/\_);have hend:=end_le HX.out.tree.fits hha hhb hka hkb ht hc;have QC:=hi_ (fun W (hT:aj_ W X.T X.m X.pos) (hS:as_ W (bh_.zero w4.heap.size))=>kr_ X.T X.m X.pos w4.heap.size _ _ W hT hS hsm hpa)
      have QE:=hi_ (fun ao cap W (hT:aj_ W X.T X.m X.pos) (hS:as_ W (bh_.one w4.heap.size ao cap ⟨1,hd X.T X.pos a,(i:Nat),hd X.T X.pos a,(i:Nat)⟩))=>jT_ X.T X.m X.pos w4.heap.size ao cap _ (b,j) (a,i) W hT hS hsm rfl hhb hkb (by show j<=_;omega) hha hka (by show i<=_;omega) rfl rfl);rw[hend]at QE;rw[hza,hzb]at HK9 ⊢;unfold bI_ at QC QE;dsimp only at QC QE QR;have hc2:decide (lcmp X.m (a,i) (b,j) > 0)=false:=decide_eq_false (by omega);have hc3:¬(lcmp X.m (a,i) (b,j) > 0):=by omega
      have hc4:decide (0<lcmp X.m (a,i) (b,j))=false:=decide_eq_false (by omega);have hc5:¬(0<lcmp X.m (a,i) (b,j)):=by omega
      generalize top X.m a=t at *;generalize top X.m b=t2 at *;generalize lcmp X.m (a,i) (b,j)=lc at *;obtain⟨za,hza2⟩:∃za,za=hd X.T X.pos a:=⟨_,rfl⟩;obtain⟨zb,hzb2⟩:∃zb,zb=hd X.T X.pos b:=⟨_,rfl⟩;have HZa:=hi_ hza2;have HZb:=hi_ hzb2;rw[<-hza2,<-hzb2]at QE HK9 ⊢;rw[<-hza2]at QC;clear QR0 HRc HKa HKb hha hhb hsm hsz hW hka hkb hszA hszB hza hzb hza2 hzb2 hpa hend ht;have HX9:=hi_ (HX.out.below HK9.out.D);obtain⟨⟨c0,c1,Dc0,Dc1⟩,⟨a0,a1,Da0,Da1⟩,⟨b0,b1,Db0,Db1⟩,⟨p0,p1,Dp0,Dp1⟩,⟨q0,q1,Dq0,Dq1⟩,y0,Dy0⟩:=HK9.out.cells HX9.out.blk;dsimp only[bh_.zero]at y0 Dy0;go_wp2_with fail
      refine af_ (by kernel_rfl) (by kernel_rfl) ?_;repeat (go_big_quiet_step ((first|(go_at_call_of 14 (Value.int .i64 ((a:Nat):Int));with_reducible exact Calls.later_same (QH1.out _ ((HX9.out.below (Later.h _)).model)))|(go_at_call 14;with_reducible exact Calls.later_same (QH2.out _ ((HX9.out.below (Later.h _)).model)))|(go_at_call_of 15 (Value.int .i64 ((a:Nat):Int));with_reducible exact Calls.later_same (QT1.out _ ((HX9.out.below (Later.h _)).model)))|(go_at_call 15;with_reducible exact Calls.later_same (QT2.out _ ((HX9.out.below (Later.h _)).model)))|(go_at_call 16;exact Calls.later (QR.out _ ((HX9.out.below (Later.h _)).model))))))
      refine wq_ (fun dq=>?_);have HK10:=hi_ (HK9.out.below dq.h);clear Dc0 Dc1 Da0 Da1 Db0 Db1 Dp0 Dp1 Dq0 Dq1 Dy0 a0 a1 b0 b1 p0 p1 q0 q1 c0 c1 y0;clear HK9;generalize dq.w=w10 at *;clear dq;clear QR QT1 QT2 QH1 QH2 te2 te3 te4 hc hc2 hc3 hc4 hc5;have HX10:=hi_ (HX.out.below HK10.out.D);obtain⟨⟨c0,c1,Dc0,Dc1⟩,⟨a0,a1,Da0,Da1⟩,⟨b0,b1,Db0,Db1⟩,⟨p0,p1,Dp0,Dp1⟩,⟨q0,q1,Dq0,Dq1⟩,y0,Dy0⟩:=HK10.out.cells HX10.out.blk;dsimp only[bh_.zero]at y0 Dy0;go_wp2_with fail
      refine an_ 5 _ _ (by kernel_rfl) (by kernel_rfl) rfl ?_;simp only[List.take_succ_cons,List.take_zero];repeat (go_big_quiet_step (fail))
      refine wq_ (fun dq=>?_);intro K hK;have HK11:=hi_ (HK10.out.below dq.h);clear Dc0 Dc1 Da0 Da1 Db0 Db1 Dp0 Dp1 Dq0 Dq1 Dy0 a0 a1 b0 b1 p0 p1 q0 q1 c0 c1 y0;clear HK10;generalize dq.w=w11 at *;clear dq;go_simp
      go_at_call 17
      refine(QC.out w11 (HX.out.below HK11.out.D).tree HK11.out.S).mono ?_;rintro e w12 ⟨ao,cap,rfl,hf,hs,hlo1⟩;have HK12:=hi_ (HK11.out.frame hf hs (HLo.out 0));clear hf hs;clear HK11;go_simp
      refine hK _ _ (ar_ ?_);clear hK K;repeat (go_big_quiet_step (fail))
      refine wq_ (fun dq=>?_);have HK13:=hi_ (HK12.out.below dq.h);clear HK12;generalize dq.w=w13 at *;clear dq;clear HLo QC;have HLo:=hi_ hlo1;clear hlo1;have QE:=hi_ (QE.out ao cap);have HX13:=hi_ (HX.out.below HK13.out.D);obtain⟨⟨c0,c1,Dc0,Dc1⟩,⟨a0,a1,Da0,Da1⟩,⟨b0,b1,Db0,Db1⟩,⟨p0,p1,Dp0,Dp1⟩,⟨q0,q1,Dq0,Dq1⟩,y0,Dy0⟩:=HK13.out.cells HX13.out.blk;dsimp only[bh_.one]at y0 Dy0;go_wp2_with fail
      refine an_ 6 _ _ (by kernel_rfl) (by kernel_rfl) rfl ?_;simp only[List.take_succ_cons,List.take_zero];repeat (go_big_quiet_step (fail))
      refine wq_ (fun dq=>?_);intro K hK;have HK14:=hi_ (HK13.out.below dq.h);clear Dc0 Dc1 Da0 Da1 Db0 Db1 Dp0 Dp1 Dq0 Dq1 Dy0 a0 a1 b0 b1 p0 p1 q0 q1 c0 c1 y0;clear HK13;generalize dq.w=w14 at *;clear dq;go_simp
      go_at_call 19
      refine(QE.out w14 (HX.out.below HK14.out.D).tree HK14.out.S).mono ?_;rintro e w15 ⟨rfl,hf,hs⟩;have HK15:=hi_ (HK14.out.frame hf hs (HLo.out _));clear hf hs;clear HK14;go_simp
      refine hK _ _ (ar_ ?_);clear hK K;repeat (go_big_quiet_step (fail))
      refine wq_ (fun dq=>?_);have HK16:=hi_ (HK15.out.below dq.h);clear HK15;generalize dq.w=w16 at *;clear dq;have HOk:=hi_ (HO1.out.below HK16.out.D);have HM16:Hid (MvT w w16 X (bh_.one w4.heap.size ao cap ⟨1,za,(i:Nat),zb,(j:Nat)⟩) w6.heap.size w8.heap.size (a,i) (b,j)):=hi_ ⟨⟨X.wD,X.D,(HX.out.below HK16.out.D).base HBs.out⟩,HK16.out.S,fun k hk=>Nat.le_trans HW4.out.size (HLo.out _ k hk),HK16.out.A,HK16.out.B,HLa.out,HLb.out⟩;obtain⟨o0,o1,o2,o3,o4,o5,o6,o7⟩:=a8_ HOk.out;have of:=(ad_ HOk.out).2 0 (by show 0<8;omega);have ol:=HOk.out.lt;have hk5:o.kind<256:=HOf.out.1.1;clear o1 o2 o3 o4 o5 o6 o7 HK16 HX;go_upto_region 12 with fail
      have HOp17:Hid (Blk (w.heap.size+1) #[.int .u8 (3+(o.kind:Int) % 5),.int .u8 o.a,.int .u8 o.b,.int .u8 o.c,.string ⟨o.s.toArray⟩,.string ⟨o.t.toArray⟩,.int .i8 o.n,.int .i8 o.k] 65 (w16.setCell ⟨w.heap.size+1,0,none⟩ (.int .u8 (3+(o.kind:Int) % 5)))):=hi_ (by
       have h1:=HOk.out.set 0 (.int .u8 (3+(o.kind:Int) % 5));simp only[List.setIfInBounds_toArray,List.set_cons_zero]at h1;exact h1)
      have HM17:Hid (MvT w (w16.setCell ⟨w.heap.size+1,0,none⟩ (.int .u8 (3+(o.kind:Int) % 5))) X (bh_.one w4.heap.size ao cap ⟨1,za,(i:Nat),zb,(j:Nat)⟩) w6.heap.size w8.heap.size (a,i) (b,j)):=hi_ (HM16.out.frameT (D:=fun k=>k=w.heap.size+1) (Frame.set (S:=fun k=>k=w.heap.size+1) (H.Frame.refl _ w16) (g:=w.heap.size+1) (Or.inl rfl) 0 _) (fun k hk=>⟨65,by decide,by subst hk;exact⟨_,HOk.out⟩⟩) (fun k hk=>by rw[hk];omega));generalize World.setCell _ _ _=w17 at *;clear o0 of ol HM16 HOk HO1;obtain⟨st,hst⟩:∃st,st=G.step (some 64) X.m (fQ_ o):=⟨_,rfl⟩;have QD:=hi_ (HM17.out.did (o:=fQ_ o) HG.out HS4.out.1 HS4.out.2 (iI_ HOf.out) HT.out);have F0:=hi_ (HMF.out (fQ_ o) (iH_ o) HS4.out.2);rw[<-hst]at QD F0;unfold opV fQ_ at QD;dsimp only at QD
      rw[show((3+o.kind % 5:Nat):Int)=3+(o.kind:Int) % 5 by omega]at QD;clear hst HMF;obtain⟨rs,er,m'⟩:=st;dsimp only at QD F0;have HLn:=hi_ (show X.m.length<=2000 by have:=HG.out.len;omega);obtain⟨tbx,htbx⟩:∃t,t=X.tb:=⟨_,rfl⟩;have HTb:=hi_ htbx;rw[<-htbx]at QD ⊢;clear htbx;obtain⟨o0,o1,o2,o3,o4,o5,o6,o7⟩:=a8_ HOp17.out;go_wp2_with fail
      refine QD.out.mono ?_;rintro e w18 ⟨v18,X2,rfl,hm18,htb,hm2,hM2,hrec,hhd⟩;have hz1:za=hd X2.T X2.pos a:=by rw[HZa.out,hhd a HHh.out.1]
      have hz2:zb=hd X2.T X2.pos b:=by rw[HZb.out,hhd b HHh.out.2]
      subst hm2;obtain⟨vo,vcap,rfl⟩:=hrec.form;have HM18:=hi_ hm18;have HV18:=hi_ hrec;have HMm:=hi_ hM2;have HLn2:Hid (X2.m.length<=2000):=hi_ (by rw[F0.out.len];exact HLn.out);clear hm18 hrec hM2 hhd HTb HZa HZb HHh HG QD HM17 HOp17 o0 o1 o2 o3 o4 o5 o6 o7 HLn;subst htb;subst hz1 hz2;have HWf:=hi_ HM18.out.tree.fits.wf;have QU:=hi_ (HM18.out.update rfl HV18.out F0.out);obtain⟨c0,c1,c2,c3⟩:=cS_ HM18.out.blk;go_wp2_with fail
      refine QU.out.mono ?_;rintro e w19 ⟨rfl,hm19,hv19⟩;have HM19:=hi_ hm19;have HV19:=hi_ hv19;clear c0 c1 c2 c3 hm19 hv19 QU HM18 HV18;go_wp2_with fail
      go_loopw [17] (fun v17 wr=>∃n:Nat,v17=.int .i64 n/\n<=rs.length/\Hid (MvT w wr X2 (bh_.one w4.heap.size ao cap (mkR X2.T X2.pos (c0_ X2.m rs (1,(a,i),(b,j))))) w6.heap.size w8.heap.size (b0_ X2.m (rs.take n) (a,i)) (b0_ X2.m (rs.take n) (b,j)))/\Hid (ax_ X2.T X2.pos w17.heap.size wr (.slice vo rs.length vcap) rs)) (fun v17 _=>rs.length-(aN_ v17).toNat)
      case atStart=>exact⟨0,rfl,Nat.zero_le _,HM19,HV19⟩
      case round=>
       clear HM19 HV19;obtain⟨n,rfl,hi,HM,HV⟩:=hrel
       by_cases hil:n<rs.length
       ·have hiI:(n:Int)<(rs.length:Int):=by omega
        have hvr:=HV.out;obtain⟨g0,cap',e,_,hgl,_⟩:=a1_ hvr (by omega);injection e with e1 _ e3
        subst e1 e3;have c:=fun k (hk:k<11)=>(ac_.cell (dg_ X2.T X2.pos) hvr hil (k:=k) hk).1;have c0:=c 0 (by omega);have c1:=c 1 (by omega);have c2:=c 2 (by omega);have c3:=c 3 (by omega);have c4:=c 4 (by omega);have c5:=c 5 (by omega);have c6:=c 6 (by omega);have c7:=c 7 (by omega);have c8:=c 8 (by omega);have c9:=c 9 (by omega);have c10:=c 10 (by omega);have HRi:=hi_ (F0.out.rcs rs[n] (List.getElem_mem hil));have HPi:=hi_ (mid_in F0.out hi);have HTp:=hi_ (gI_ (m:=X2.m) hil (a,i));have HTq:=hi_ (gI_ (m:=X2.m) hil (b,j));have QR:=hi_ (HM.out.record HLn2.out rs[n]);generalize b0_ X2.m (rs.take n) (a,i)=pn at *;generalize b0_ X2.m (rs.take n) (b,j)=qn at *;generalize rs[n]=r at *;have hnt:=HM.out.num HRi.out.tgt
        obtain⟨nz,hnz⟩:∃z,z=numOf X2 (hdO X2.T X2.pos r.node):=⟨_,rfl⟩;have HNz:Hid (∀h,r.kind=2->r.node=some h->nz=((h:Nat):Int)):=hi_ (fun h k2 e=>by
         obtain⟨h',e',hh⟩:=HRi.out.cut k2;rw[e]at e';injection e' with e'
         subst e';rw[hnz,e];exact HM.out.num hh)
        unfold nU_ aB_ mrV at QR;rw[hnt,<-hnz]at QR;simp only[aB_,List.getElem?_cons_zero,List.getElem?_cons_succ,Nat.add_zero]at c0 c1 c2 c3 c4 c5 c6 c7 c8 c9 c10;have Qp:=hi_ (fun W (hM:ab_ W X2.M)=>mMove X2.M r pn nz W hM (by rw[HMm.out];exact HWf.out) (by rw[HMm.out];exact aR_ HPi.out.ha) (by rw[HMm.out];exact HRi.out) HNz.out HPi.out.ka);have Qq:=hi_ (fun W (hM:ab_ W X2.M)=>mMove X2.M r qn nz W hM (by rw[HMm.out];exact HWf.out) (by rw[HMm.out];exact aR_ HPi.out.hb) (by rw[HMm.out];exact HRi.out) HNz.out HPi.out.kb);rw[HMm.out]at Qp Qq;generalize bc_ X2.m r pn=np at *;generalize bc_ X2.m r qn=nq at *;clear c hvr hnt hnz HNz HRi HPi;go_wp2_with fail
        refine QR.out.mono ?_;rintro e w20 ⟨rfl,hb20⟩;have HM20:=hi_ (HM.out.below hb20);have HV20:Hid (ax_ X2.T X2.pos w17.heap.size w20 (.slice (some ⟨g0,0,none⟩) rs.length vcap) rs):=hi_ (own_below HV.out hb20);clear hb20 QR HM HV c0 c1 c2 c3 c4 c5 c6 c7 c8 c9 c10 hgl;go_upto_region 18 with fail
        have hbb:=(Below.refl w20.heap.size w20).alloc (nl_) (.cells #[.int .i64 r.kind,.int .i64 r.target,.int .i64 nz,.int .i64 0,.int .i64 0,.int .i64 r.index,.string ⟨#[]⟩,.string ⟨#[]⟩,.bool false,.int .i64 r.count,.int .i64 r.size] 71);have HBx:=hi_ (Blk.new w20 #[.int .i64 r.kind,.int .i64 r.target,.int .i64 nz,.int .i64 0,.int .i64 0,.int .i64 r.index,.string ⟨#[]⟩,.string ⟨#[]⟩,.bool false,.int .i64 r.count,.int .i64 r.size] 71);have HM:=hi_ (HM20.out.below hbb);have HV:Hid (ax_ X2.T X2.pos w17.heap.size _ (.slice (some ⟨g0,0,none⟩) rs.length vcap) rs):=hi_ (own_below HV20.out hbb);clear hbb HM20 HV20;generalize World.alloc _ _=w21 at *;obtain⟨c0,c1,c2⟩:=lB_ HM.out.blk;obtain⟨p0,p1,P0,P1⟩:=e7_ HM.out.A;obtain⟨R0,R1,R2,R3,R4,R5,R6,R7,R8,R9,R10⟩:=lC_ HBx.out
        refine an_ 7 _ _ (by kernel_rfl) (by kernel_rfl) rfl ?_;simp only[List.take_succ_cons,List.take_zero];repeat (go_big_quiet_step ((go_at_call 27;exact Calls.later (Qp.out _ (HM.out.below (Later.h _)).model))))
        refine wq_ (fun dq=>?_);have HM1:=hi_ (HM.out.below dq.h);have HV1:Hid (ax_ X2.T X2.pos w17.heap.size _ (.slice (some ⟨g0,0,none⟩) rs.length vcap) rs):=hi_ (own_below HV.out dq.h);have HBx1:=hi_ (HBx.out.below dq.h);clear c0 c1 c2 p0 p1 P0 P1 R0 R1 R2 R3 R4 R5 R6 R7 R8 R9 R10 HM HV HBx;generalize dq.w=w22 at *;clear dq;intro K hK;obtain⟨pc,pf⟩:=ad_ HM1.out.A;have p0:=pc 0;have p1:=pc 1;have f0:=pf 0 (by show 0<2;omega);have f1:=pf 1 (by show 1<2;omega);have pl:=HM1.out.A.lt;clear pc pf;go_simp
        have HM:=hi_ (HM1.out.putA HNe.out np);have hfr:=fp_ w22 w6.heap.size (.int .i64 np.1) (.int .i64 np.2);have hnv:∀g,(Value.slice (some ⟨g0,0,none⟩) rs.length vcap).ownBlock=some g->¬g=w6.heap.size:=fun g hg e=>by
         obtain⟨cs,hc⟩:=aV_ HV1.out hg;rw[e]at hc;exact absurd (bM_ hc HM1.out.A) (by decide)
        have HV:Hid (ax_ X2.T X2.pos w17.heap.size _ (.slice (some ⟨g0,0,none⟩) rs.length vcap) rs):=hi_ (ah_ HV1.out hfr hnv);have HBx:=hi_ (HBx1.out.frame hfr (fun e=>by have h1:=HBx1.out;rw[e]at h1;exact absurd (bM_ h1 HM1.out.A) (by decide)));refine hK _ _ (ar_ ?_);clear hK K p0 p1 f0 f1 pl HM1 HV1 HBx1 hfr hnv;generalize World.setCell _ _ _=w23 at *;repeat (go_big_quiet_step (fail))
        refine wq_ (fun dq=>?_);have HM1:=hi_ (HM.out.below dq.h);have HV1:Hid (ax_ X2.T X2.pos w17.heap.size _ (.slice (some ⟨g0,0,none⟩) rs.length vcap) rs):=hi_ (own_below HV.out dq.h);have HBx1:=hi_ (HBx.out.below dq.h);clear HM HV HBx;generalize dq.w=w24 at *;clear dq;have HM:=hi_ HM1.out;have HV:=hi_ HV1.out;have HBx:=hi_ HBx1.out;clear HM1 HV1 HBx1;go_upto_region 19 with fail
        obtain⟨c0,c1,c2⟩:=lB_ HM.out.blk;obtain⟨p0,p1,P0,P1⟩:=e7_ HM.out.B;obtain⟨R0,R1,R2,R3,R4,R5,R6,R7,R8,R9,R10⟩:=lC_ HBx.out;refine an_ 7 _ _ (by kernel_rfl) (by kernel_rfl) rfl ?_;simp only[List.take_succ_cons,List.take_zero];repeat (go_big_quiet_step ((go_at_call 27;exact Calls.later (Qq.out _ (HM.out.below (Later.h _)).model))))
        refine wq_ (fun dq=>?_);have HM1:=hi_ (HM.out.below dq.h);have HV1:Hid (ax_ X2.T X2.pos w17.heap.size _ (.slice (some ⟨g0,0,none⟩) rs.length vcap) rs):=hi_ (own_below HV.out dq.h);have HBx1:=hi_ (HBx.out.below dq.h);clear c0 c1 c2 p0 p1 P0 P1 R0 R1 R2 R3 R4 R5 R6 R7 R8 R9 R10 HM HV HBx;generalize dq.w=w25 at *;clear dq;intro K hK;obtain⟨pc,pf⟩:=ad_ HM1.out.B;have p0:=pc 0;have p1:=pc 1;have f0:=pf 0 (by show 0<2;omega);have f1:=pf 1 (by show 1<2;omega);have pl:=HM1.out.B.lt;clear pc pf;go_simp
        have HM:=hi_ (HM1.out.putB HNe.out nq);have hfr:=fp_ w25 w8.heap.size (.int .i64 nq.1) (.int .i64 nq.2);have hnv:∀g,(Value.slice (some ⟨g0,0,none⟩) rs.length vcap).ownBlock=some g->¬g=w8.heap.size:=fun g hg e=>by
         obtain⟨cs,hc⟩:=aV_ HV1.out hg;rw[e]at hc;exact absurd (bM_ hc HM1.out.B) (by decide)
        have HV:Hid (ax_ X2.T X2.pos w17.heap.size _ (.slice (some ⟨g0,0,none⟩) rs.length vcap) rs):=hi_ (ah_ HV1.out hfr hnv);have HBx:=hi_ (HBx1.out.frame hfr (fun e=>by have h1:=HBx1.out;rw[e]at h1;exact absurd (bM_ h1 HM1.out.B) (by decide)));refine hK _ _ (ar_ ?_);clear hK K p0 p1 f0 f1 pl HM1 HV1 HBx1 hfr hnv;generalize World.setCell _ _ _=w26 at *;repeat (go_big_quiet_step (fail))
        refine wq_ (fun dq=>?_);have HM1:=hi_ (HM.out.below dq.h);have HV1:Hid (ax_ X2.T X2.pos w17.heap.size _ (.slice (some ⟨g0,0,none⟩) rs.length vcap) rs):=hi_ (own_below HV.out dq.h);have HBx1:=hi_ (HBx.out.below dq.h);clear HM HV HBx;generalize dq.w=w27 at *;clear dq;have HM:=hi_ HM1.out;have HV:=hi_ HV1.out;have HBx:=hi_ HBx1.out;clear HM1 HV1 HBx1;go_wp2_with fail
        have hrl:=F0.out.few;have hwr:wrap64 ((n:Int)+1)=(n:Int)+1:=by unfold wrap64;omega
        rw[hwr];refine⟨⟨n+1,by push_cast;rfl,by omega,hi_ (by rw[HTp.out,HTq.out];exact HM.out),HV⟩,?_⟩;show rs.length-((n:Int)+1).toNat<rs.length-((n:Int)).toNat;omega
       ·obtain rfl:n=rs.length:=by omega
        rw[List.take_length]at HM;have HRt:=hi_ (F0.out.beh);have HPf:=hi_ F0.out.hx;have HQf:=hi_ F0.out.hy;have HWh:=hi_ (⟨F0.out.whole,F0.out.attrs⟩:_/\_);unfold gR_ at HRt;unfold c0_ at HM;dsimp only at HM;generalize b0_ X2.m rs (a,i)=pf at *;generalize b0_ X2.m rs (b,j)=qf at *;have QV:=hi_ (fun W (hT:aj_ W X2.T X2.m X2.pos) (hS:as_ W (bh_.one w4.heap.size ao cap (mkR X2.T X2.pos (1,pf,qf))))=>kI_ X2.T X2.m X2.pos w4.heap.size ao cap (mkR X2.T X2.pos (1,pf,qf)) W hT hS HWh.out.1 HWh.out.2 HLn2.out rfl (rg_two HPf.out HQf.out HRt.out.2.1.2 HRt.out.2.2.1.2 HRt.out.2.2.2.1 HRt.out.2.2.2.2));have QG:=hi_ (k9_ w4.heap.size ao cap (mkR X2.T X2.pos (1,pf,qf)) wr HM.out.set rfl);rw[rgV_mk]at QG;dsimp only at QG;have hpl:(pf.1:Int)<(X2.m.length:Int):=by have:=aR_ HPf.out;omega
        have hql:(qf.1:Int)<(X2.m.length:Int):=by have:=aR_ HQf.out;omega
        go_wp2_with fail
        refine QG.out.mono ?_;rintro e w22 ⟨rfl,hb22⟩;have HM22:=hi_ (HM.out.below hb22);clear HM hb22 QG HV;go_upto_region 21 with fail
        have hbb:=(Below.refl w22.heap.size w22).alloc (nl_) (.cells #[.int .i64 1,.int .i64 (hd X2.T X2.pos pf.1),.int .i64 pf.2,.int .i64 (hd X2.T X2.pos qf.1),.int .i64 qf.2] 54);have HRg:=hi_ (Blk.new w22 #[.int .i64 1,.int .i64 (hd X2.T X2.pos pf.1),.int .i64 pf.2,.int .i64 (hd X2.T X2.pos qf.1),.int .i64 qf.2] 54);have HM:=hi_ (HM22.out.below hbb);clear hbb HM22;generalize World.alloc _ _=w23 at *;obtain⟨gh,hcap,ehv,hgl,hH⟩:=HM.out.handle;obtain⟨c0,c1,c2⟩:=lB_ HM.out.blk;rw[ehv]at c2;have hh1:=hH pf.1 HPf.out;have hh2:=hH qf.1 HQf.out;have H1:=lc_ hh1 hgl;have H2:=lc_ hh2 hgl;obtain⟨p0,p1,P0,P1⟩:=e7_ HM.out.A;obtain⟨q0,q1,Q0,Q1⟩:=e7_ HM.out.B;obtain⟨R0,R1,R2,R3,R4⟩:=later5 HRg.out;clear p0 p1 q0 q1 hh1 hh2 ehv hH
        refine af_ (by kernel_rfl) (by kernel_rfl) ?_;repeat (go_big_quiet_step ((go_at_call 21;exact Calls.later (QV.out _ (HM.out.below (Later.h _)).tree (HM.out.below (Later.h _)).set))))
        refine wq_ (fun dq=>?_);have HME:=hi_ (HM.out.below dq.h);clear c0 c1 c2 H1 H2 P0 P1 Q0 Q1 R0 R1 R2 R3 R4 HM;go_wp2_with fail
        go_ret
        exact⟨rfl,HME.out.bel⟩
     ·have hc2:decide (lcmp X.m (a,i) (b,j) > 0)=true:=decide_eq_true (by omega)
      have hc3:lcmp X.m (a,i) (b,j) > 0:=by omega
      have hc4:decide (0<lcmp X.m (a,i) (b,j))=true:=decide_eq_true (by omega);generalize top X.m a=t at *;generalize top X.m b=t2 at *;generalize lcmp X.m (a,i) (b,j)=lc at *;clear QR0 HRc HKa HKb hha hhb hsm hsz hW hc ht;have HX9:=hi_ (HX.out.below HK9.out.D);obtain⟨⟨c0,c1,Dc0,Dc1⟩,⟨a0,a1,Da0,Da1⟩,⟨b0,b1,Db0,Db1⟩,⟨p0,p1,Dp0,Dp1⟩,⟨q0,q1,Dq0,Dq1⟩,y0,Dy0⟩:=HK9.out.cells HX9.out.blk;dsimp only[bh_.zero]at y0 Dy0;go_wp2_with fail
      refine af_ (by kernel_rfl) (by kernel_rfl) ?_;repeat (go_big_quiet_step ((first|(go_at_call_of 14 (Value.int .i64 ((a:Nat):Int));with_reducible exact Calls.later_same (QH1.out _ ((HX9.out.below (Later.h _)).model)))|(go_at_call 14;with_reducible exact Calls.later_same (QH2.out _ ((HX9.out.below (Later.h _)).model)))|(go_at_call_of 15 (Value.int .i64 ((a:Nat):Int));with_reducible exact Calls.later_same (QT1.out _ ((HX9.out.below (Later.h _)).model)))|(go_at_call 15;with_reducible exact Calls.later_same (QT2.out _ ((HX9.out.below (Later.h _)).model)))|(go_at_call 16;exact Calls.later (QR.out _ ((HX9.out.below (Later.h _)).model))))))
      refine wq_ (fun dq=>?_);have HK10:=hi_ (HK9.out.below dq.h);clear Dc0 Dc1 Da0 Da1 Db0 Db1 Dp0 Dp1 Dq0 Dq1 Dy0 a0 a1 b0 b1 p0 p1 q0 q1 c0 c1 y0;clear HK9;generalize dq.w=w10 at *;clear dq;have HWk:=bt_ HW4 HK10.out.D;go_wp2_with fail
      go_ret
      exact⟨rfl,HWk.out⟩
    ·have hne:¬((top X.m a:Nat):Int)=((top X.m b:Nat):Int):=by omega
     have hne2:(((top X.m a:Nat):Int)==((top X.m b:Nat):Int))=false:=bn_ hne;have hne3:(((top X.m a:Nat):Int) != ((top X.m b:Nat):Int))=true:=bne_iff_ne.2 hne;generalize top X.m a=t at *;generalize top X.m b=t2 at *;clear QR0 HRc HKa HKb hha hhb hsm hsz hW ht;have HX9:=hi_ (HX.out.below HK9.out.D);obtain⟨⟨c0,c1,Dc0,Dc1⟩,⟨a0,a1,Da0,Da1⟩,⟨b0,b1,Db0,Db1⟩,⟨p0,p1,Dp0,Dp1⟩,⟨q0,q1,Dq0,Dq1⟩,y0,Dy0⟩:=HK9.out.cells HX9.out.blk;dsimp only[bh_.zero]at y0 Dy0;go_wp2_with fail
     refine af_ (by kernel_rfl) (by kernel_rfl) ?_;repeat (go_big_quiet_step ((first|(go_at_call_of 14 (Value.int .i64 ((a:Nat):Int));with_reducible exact Calls.later_same (QH1.out _ ((HX9.out.below (Later.h _)).model)))|(go_at_call 14;with_reducible exact Calls.later_same (QH2.out _ ((HX9.out.below (Later.h _)).model)))|(go_at_call_of 15 (Value.int .i64 ((a:Nat):Int));with_reducible exact Calls.later_same (QT1.out _ ((HX9.out.below (Later.h _)).model)))|(go_at_call 15;with_reducible exact Calls.later_same (QT2.out _ ((HX9.out.below (Later.h _)).model)))|(go_at_call 16;exact Calls.later (QR.out _ ((HX9.out.below (Later.h _)).model))))))
     refine wq_ (fun dq=>?_);have HK10:=hi_ (HK9.out.below dq.h);clear Dc0 Dc1 Da0 Da1 Db0 Db1 Dp0 Dp1 Dq0 Dq1 Dy0 a0 a1 b0 b1 p0 p1 q0 q1 c0 c1 y0;clear HK9;generalize dq.w=w10 at *;clear dq;have HWk:=bt_ HW4 HK10.out.D;go_wp2_with fail
     go_ret
     exact⟨rfl,HWk.out⟩
end A
end
end Go.Proofs.YtinphfpdfodkkaaGreatDoor
