/- Texts of the proof. -/
import Derived.Test.YtinphfpdfodkkaaGreatDoorN02
import Derived.Test.YtinphfpdfodkkaaGreatDoorM16
import Derived.Test.YtinphfpdfodkkaaGreatDoorM29
set_option linter.unusedVariables false
set_option linter.unusedSimpArgs false
set_option maxHeartbeats 8000000
set_option maxRecDepth 100000
namespace Go.Proofs.YtinphfpdfodkkaaGreatDoor
section
open Go.RowKit Go.Sort
namespace A
open H G R
structure Good(X:Tw):Prop where
 mm:X.M.m=X.m
 whole:Whole X.m
 attrs:∀i,(nd X.m i).attrs.length<=62
 ok:AllN (OkBod 60) X.m
 len:X.m.length<=300
theorem OkBod.up{k:Nat}{x:List (List UInt8×List UInt8)×List UInt8}(h:OkBod k x):∀d,OkBod (k+d) x
 |0=>h
 |d+1=>(OkBod.up h d).more
theorem start_(os:List G.Op)(v:Value)(w:World)(h:OpsAt w v os)(hfew:few os=true)(hf:∀o,o∈os->o.fits)(ht:UTabs w) :
  Calls Tryz.prog 11 #[v] w fun e w'=>∃X,e=.returned (.pointer (some ⟨X.tb,0,none⟩))/\TwIs w w' X/\Good X:=by
 refine(start11 os v w h hfew hf ht).mono ?_;rintro e w' ⟨X,rfl,hX,hm,_,⟨i,hi,ha⟩,hl,_,_⟩;have ha60:AllN (OkBod 60) X.m:=fun j=>by
  have h1:=OkBod.up (ha j) (60-i)
  rwa [show i+(60-i)=60 by omega]at h1
 refine⟨X,rfl,hX,hm,fun j=>⟨?_,(ha60 j).2.1⟩,fun j=>(ha60 j).1,ha60,hl⟩;have h1:(nd X.m j).data.length<=120*(60+1):=(ha60 j).2.2;omega
theorem Good.small{X:Tw}(h:Good X):Small X.m:=small_of h.whole (fun i=>by have:=h.attrs i;omega)
def SMem.zero(sb:Nat):SMem:=⟨sb,.slice none 0 0,[],.slice none 0 0,[],0,sb⟩
theorem SetMem.new(w:World):SetMem (w.alloc (.cells #[.slice none 0 0,.slice none 0 0,.int .i64 0] 50)) (SMem.zero w.heap.size):=
 ⟨Blk.new w _ _,World.ownsRow_nil _ _ _ _,World.ownsRow_nil _ _ _ _,⟨Nat.zero_le _,Nat.zero_le _⟩,⟨Int.le_refl _,by show(0:Int)<=10000;omega⟩,Nat.le_refl _⟩
theorem SMem.zero_foot{sb k:Nat}(h:(SMem.zero sb).foot k):sb<=k:=by
 rcases h with e|e|e
 ·exact Nat.le_of_eq e.symm
 ·cases e
 ·cases e
theorem doc_whole:Whole [docNode]:=fun i=>by
 cases i with
 |zero=>exact⟨by show([]:List UInt8).length<=_;simp,rfl⟩
 |succ i=>exact⟨by show([]:List UInt8).length<=_;simp,rfl⟩
theorem doc_attrs:∀i,(nd [docNode] i).attrs.length<=100000:=fun i=>by
 cases i with
 |zero=>exact Nat.zero_le _
 |succ i=>exact Nat.zero_le _
theorem awake9(w:World):Calls Tryz.prog 9 #[] w fun e w'=>e=.returned (.bool true)/\Below w.heap.size w w':=by
 have QN:=hi_ (fun W=>new2_ 0 0 W)
 go_enter Tryz.func9,Tryz.ntmps9
 go_wp2_with fail
 refine(QN.out _).mono ?_;rintro e w1 ⟨T,rfl,hb1,hT1,_⟩;have HB1:=hi_ hb1;have HT1:=hi_ hT1;have hda:=(Below.refl w1.heap.size w1).alloc (Nat.le_refl _) (.cells #[.slice none 0 0,.slice none 0 0,.int .i64 0] 50);have HDa:=hi_ hda;have HS0:=hi_ (SetMem.new w1);have HT2:=hi_ (hT1.below hda);have hblk:=HT2.out.mem.blk;unfold tcells at hblk;obtain⟨hc,hf⟩:=cells_of hblk;have c5:=hc 5;have htl:=hblk.lt;have hroot:T.root=hd T (fun _=>0) 0:=hT1.fits.root;have hz:PtIs T [docNode] (fun _=>0) T.root 0 0:=Or.inl ⟨0,rfl,hroot,rfl⟩;have QCr:=hi_ (create_ok T [docNode] (fun _=>0) (SMem.zero w1.heap.size) T.root 0 _ HT2.out HS0.out (small_of doc_whole doc_attrs) hz (by show 0<10000;omega) (by show(0:Int)<10000;omega));have HRt:=hi_ hroot
 have c5':(w1.alloc (.cells #[.slice none 0 0,.slice none 0 0,.int .i64 0] 50)).cell? ⟨T.tb,5,none⟩=some (.int .i64 T.root):=c5;unfold pointV at QCr;clear hda hblk hc hf c5 hb1 hT1 QN hroot hz;go_wp2_with fail
 refine QCr.out.mono ?_;rintro e w3 ⟨v,rfl,hf3,hs3,hv3⟩;have HD3:=hi_ (HDa.out.trans (hf3.below (B:=w1.heap.size) (fun k hk=>SMem.zero_foot hk) HDa.out.size));have HT3:=hi_ (HT1.out.below HD3.out);have HOk:Hid (SetOk T [docNode] (fun _=>0) { SMem.zero w1.heap.size with rv:=v,rs:=[]++[⟨0+1,T.root,0,T.root,0⟩],last:=0+1 }):=hi_
  ⟨(fun r hr => by
    obtain rfl:r=⟨0+1,T.root,0,T.root,0⟩:=by simpa using hr
    exact⟨(0,0),(0,0),⟨HRt.out,rfl,HRt.out,rfl⟩,⟨rfl,rfl⟩,⟨Nat.zero_le _,Nat.zero_le _⟩,rfl,by decide⟩),
   (fun x hx=>by cases hx),(fun i hi=>by
    obtain rfl:i=0:=by simpa using hi
    show(0:Int)<0+1
    omega),(fun i hi=>by cases hi),(fun r hr=>by
    obtain rfl:r=⟨0+1,T.root,0,T.root,0⟩:=by simpa using hr
    exact Int.le_refl _),(fun x hx=>by cases hx)⟩
 have QV:=hi_ (valid_ T [docNode] (fun _=>0) _ w3 HT3.out hs3 doc_whole doc_attrs (by show 1<=2000;omega) HOk.out);have e1:(SMem.zero w1.heap.size).last+1=1:=rfl;rw[e1];clear hf3 hs3 hv3 QCr c5';go_wp2_with fail
 refine QV.out.mono ?_;rintro e w4 ⟨rfl,hb4⟩;have HB4:=hi_ ((HB1.out.trans (HD3.out.mono HB1.out.size)).trans (hb4.mono (Nat.le_trans HB1.out.size HD3.out.size)));clear hb4 QV;go_wp2_with fail
 go_ret
 exact⟨rfl,HB4.out⟩
theorem spotN_lt{m:Model}(W:WF m)(p:Nat):spotN m p<m.length:=Nat.mod_lt _ W.doc.1
theorem spot_ok{m:Model}{p q:Nat}(h:has m (spotN m p)=true):spotI m p q<=G.sizeOf m (spotN m p):=by
 unfold spotI;rw[if_pos h];have:=Nat.mod_lt q (show 0<G.sizeOf m (spotN m p)+1 by omega);omega
theorem later2{w:World}{g:Nat}{t:TypeId}{a b:Value}(h:Blk g #[a,b] t w):w.cell? ⟨g,0,none⟩=some a/\w.cell? ⟨g,1,none⟩=some b/\(∀d:Later w.heap.size w,d.w.cell? ⟨g,0,none⟩=some a)/\∀d:Later w.heap.size w,d.w.cell? ⟨g,1,none⟩=some b:=
 ⟨(cells_of h).1 0,(cells_of h).1 1,fun d=>Later.cell ((cells_of h).1 0) h.lt d,fun d=>Later.cell ((cells_of h).1 1) h.lt d⟩
theorem two_pts(w:World)(i k:Nat)(z:Int):Below w.heap.size w ((w.alloc (.cells #[.int .i64 (i:Nat),.int .i64 (k:Nat)] 30)).alloc (.cells #[.int .i64 z,.int .i64 (k:Nat)] 31)) ∧
  Blk w.heap.size #[.int .i64 (i:Nat),.int .i64 (k:Nat)] 30 ((w.alloc (.cells #[.int .i64 (i:Nat),.int .i64 (k:Nat)] 30)).alloc (.cells #[.int .i64 z,.int .i64 (k:Nat)] 31)) ∧
  Blk (w.heap.size+1) #[.int .i64 z,.int .i64 (k:Nat)] 31 ((w.alloc (.cells #[.int .i64 (i:Nat),.int .i64 (k:Nat)] 30)).alloc (.cells #[.int .i64 z,.int .i64 (k:Nat)] 31)):=by
 refine⟨((Below.refl w.heap.size w).alloc (Nat.le_refl _) _).alloc (by simp) _,(Blk.new w _ _).alloc _,?_⟩;have h:=Blk.new (w.alloc (.cells #[.int .i64 (i:Nat),.int .i64 (k:Nat)] 30)) #[.int .i64 z,.int .i64 (k:Nat)] 31;simpa using h
end A
end
section
open Go.RowKit
namespace T
theorem refJoin2(ao:Option Addr)(cap:Nat)(L:List (List UInt8))(a b:Int)(f:Nat)(w:World)(hL:L.flatten.length<=1000000)(hN:L.length<=1000000)(hr:StrRow w ao L)(hmx:max a 0=(f:Int)) :
  Calls Tryz.prog 56 #[.slice ao L.length cap,.int .i64 a,.int .i64 b] w fun e w'=>e=.returned (.string ⟨(U.sl L f b.toNat).toArray⟩)/\w=w':=by
 have HR:=hi_ hr;clear hr
 go_enter Tryz.func56,Tryz.ntmps56
 go_wp2_with fail
 go_loop [7,8] (fun o i=>∃k:Nat,f<=k/\(k<=L.length\/k=f)/\(k<=b.toNat\/k=f)/\i=.int .i64 k/\o=.string ⟨(U.sl L f k).toArray⟩) (fun _ i=>L.length-(Go.RowKit.intOf i).toNat)
 case atStart=>exact⟨f,Nat.le_refl _,.inr rfl,.inr rfl,rfl,by rw[U.sl_empty _ _ _ (Nat.le_refl _)]⟩
 case round=>
  obtain⟨k,hfk,hk1,hk2,rfl,rfl⟩:=hrel;have hl1:=sl_length L f k
  by_cases hkb:(k:Int)<b/\k<L.length
  ·obtain⟨hkb,hkL⟩:=hkb
   have hkI:(k:Int)<(L.length:Int):=by omega
   obtain⟨g,rfl,hg,hc⟩:=HR.out (by omega);have hcell:=hc k hkL;have HS:=hi_ (sl_snoc L f k hfk hkL);have hl2:=sl_length L f (k+1);rw[HS.out,List.length_append]at hl2;clear hc;have hab:=append_bytes (U.sl L f k) (L.getD k []);have HAB:=hi_ hab;clear hab;generalize L.getD k []=c at *;have z1:=bytes_size (U.sl L f k);have z2:=bytes_size c;have zz:((⟨(U.sl L f k).toArray⟩:ByteArray).size:Int)+((⟨c.toArray⟩:ByteArray).size:Int)<=1000000:=by omega
   clear z1 z2;generalize U.sl L f k=q at *;go_wp2_with fail
   go_round
   case rel=>exact⟨k+1,by omega,.inl (by omega),.inl (by omega),by go_num,by rw[HS.out];simp only[HAB.out]⟩
   case measure=>simp[Go.RowKit.intOf];omega
  ·by_cases hkc:(k:Int)<b
   ·have hkL:¬(k:Int)<(L.length:Int):=fun h=>hkb ⟨hkc,by omega⟩
    have HE:=hi_ (show U.sl L f k=U.sl L f b.toNat by
     unfold U.sl;rw[List.take_of_length_le (by omega),List.take_of_length_le (by omega)])
    have d1:decide ((k:Int)<(L.length:Int))=false:=decide_eq_false hkL;have d2:decide (k<L.length)=false:=decide_eq_false (by omega);clear hkb;go_wp2_with fail
    go_ret
    exact⟨ret_str (by rw[HE.out]),rfl⟩
   have hkb':b<=(k:Int):=by omega
   have HE:=hi_ (show U.sl L f k=U.sl L f b.toNat by
    rcases hk2 with h|h
    ·rw[show b.toNat=k by omega]
    ·rw[h,U.sl_empty _ _ _ (Nat.le_refl _),U.sl_empty _ _ _ (by omega)])
   clear hkb;go_wp2_with fail
   go_ret
   exact⟨ret_str (by rw[HE.out]),rfl⟩
end T
end
section
open Go.RowKit Go.Sort
namespace R
open H G A
def textTo(m:Model)(l:List (Nat×Nat))(x i:Nat):List UInt8:=((l.drop x).take (i-x)).flatMap (textOf m)
theorem textTo_self(m:Model)(l:List (Nat×Nat))(x:Nat):textTo m l x x=[]:=by unfold textTo;simp
theorem textTo_succ(m:Model){l:List (Nat×Nat)}{x i:Nat}(hx:x<=i)(hi:i<l.length):textTo m l x (i+1)=textTo m l x i++textOf m l[i]:=by
 unfold textTo;have e:i+1-x=(i-x)+1:=by omega
 have h2:(l.drop x)[i-x]?=some l[i]:=by rw[List.getElem?_drop,show x+(i-x)=i by omega,List.getElem?_eq_getElem hi]
 rw[e,List.take_add_one,h2];simp
theorem flat_le{α β:Type}{f:α->List β}{n:Nat}(h:∀x,(f x).length<=n):∀l:List α,(l.flatMap f).length<=l.length*n
 |[]=>by simp
 |x :: l=>by
  rw[List.flatMap_cons,List.length_append,List.length_cons,Nat.succ_mul];have h1:=h x;have h2:=flat_le h l;omega
theorem sl_one_le(L:List (List UInt8))(k:Nat):(sl L k (k+1)).length<=L.flatten.length:=by
 unfold sl;have h1:L=L.take (k+1)++L.drop (k+1):=(List.take_append_drop _ _).symm;have h2:L.take (k+1)=(L.take (k+1)).take k++(L.take (k+1)).drop k:=(List.take_append_drop _ _).symm;have h3:=congrArg (fun l:List (List UInt8)=>l.flatten.length) h1;have h4:=congrArg (fun l:List (List UInt8)=>l.flatten.length) h2;simp only[List.flatten_append,List.length_append]at h3 h4;omega
theorem textOf_le{m:Model}(hD:Whole m)(p:Nat×Nat):(textOf m p).length<=100000:=by
 unfold textOf
 split
 ·have h1:=sl_one_le (U.pts (nd m p.1).data) p.2
  have h2:(U.pts (nd m p.1).data).flatten=(nd m p.1).data:=(hD p.1).2;rw[h2]at h1;exact Nat.le_trans h1 (hD p.1).1
 ·simp
theorem textTo_le{m:Model}(hD:Whole m)(l:List (Nat×Nat))(hl:l.length<=1000010000)(x i:Nat):(textTo m l x i).length<=100001000000000:=by
 have h1:=flat_le (textOf_le hD) ((l.drop x).take (i-x));have h2:((l.drop x).take (i-x)).length<=l.length:=by rw[List.length_take,List.length_drop];omega
 have h3:((l.drop x).take (i-x)).length*100000<=1000010000*100000:=Nat.mul_le_mul_right _ (Nat.le_trans h2 hl);unfold textTo;omega
theorem mText(M:MMem)(a b:Nat×Nat)(w:World)(h:ModelMem w M)(W:WF M.m)(hD:Whole M.m)(hfw:M.m.length<=10000)(ha:PtOk M.m a)(hb:PtOk M.m b)(ht:top M.m a.1=top M.m b.1) :
  Calls Tryz.prog 23 #[.pointer (some ⟨M.mb,0,none⟩),.agg #[.int .i64 (a.1:Nat),.int .i64 (a.2:Nat)],.agg #[.int .i64 (b.1:Nat),.int .i64 (b.2:Nat)]] w fun e w'=>e=.returned (.string ⟨(refText M.m a b).toArray⟩)/\Below w.heap.size w w':=by
 obtain⟨l,hl⟩:∃l,l=all M.m (top M.m a.1):=⟨_,rfl⟩;have hlt:=W.top_lt _ ha.1;have hma:a∈l:=by rw[hl];exact(W.mem_all _ hlt).2 ⟨W.top_contains _,ha⟩
 have hmb:b∈l:=by rw[hl];exact(W.mem_all _ hlt).2 ⟨by rw[ht];exact W.top_contains _,hb⟩
 have hll:l.length<=1000010000:=by rw[hl];exact all_short W hD hfw hlt
 have HIn:Hid (∀p,p∈l->p.1<M.nodes.length/\PtOk M.m p):=hi_ (fun p hp=>by
  rw[hl]at hp;have h1:=((W.mem_all _ hlt).1 hp).2;exact⟨by rw[<-M.m_len];exact h1.1,h1⟩)
 have HRes:Hid (refText M.m a b=textTo M.m l (l.idxOf a) (l.idxOf b)):=hi_ (by rw[hl];rfl);have HD:=hi_ hD;have HTl:=hi_ (textTo_le hD l hll);have HM:=hi_ h;have QT:=hi_ (fun W' (hM:ModelMem W' M)=>mTop M a.1 W' hM W (by rw[<-M.m_len];exact ha.1));have QA:=hi_ (fun W' (hW:Below w.heap.size w W')=>mAll M w h W hD hfw _ (top M.m a.1) W' hW (Nat.le_refl _) (by rw[<-M.m_len];exact hlt));have QF:=hi_ (fun v base p W' (hv:OwnP base W' v l) (hp:p∈l)=>mFindP v l base p W' hv hp (by omega));have HSz:=hi_ (fun q=>size_short W hD (by omega) q);have HMa:=hi_ hma;have HMb:=hi_ hmb;have hxa:=List.idxOf_lt_length_of_mem hma;have hxb:=List.idxOf_lt_length_of_mem hmb;rw[<-hl]at QA;generalize refText M.m a b=RT at *;generalize top M.m a.1=tp at *;generalize hx:l.idxOf a=x at *;generalize hy:l.idxOf b=y at *
 have HXx:=hi_ hx;have HYy:=hi_ hy;have hb1:=((Below.refl w.heap.size w).alloc (Nat.le_refl _) (.cells #[.int .i64 (a.1:Nat),.int .i64 (a.2:Nat)] 30)).alloc (by simp) (.cells #[.int .i64 (b.1:Nat),.int .i64 (b.2:Nat)] 30);have hx0:=(Blk.new w #[.int .i64 (a.1:Nat),.int .i64 (a.2:Nat)] 30).alloc (.cells #[.int .i64 (b.1:Nat),.int .i64 (b.2:Nat)] 30);have hx1:=Blk.new (w.alloc (.cells #[.int .i64 (a.1:Nat),.int .i64 (a.2:Nat)] 30)) #[.int .i64 (b.1:Nat),.int .i64 (b.2:Nat)] 30;rw[World.size_alloc]at hx1;have HB1:=hi_ hb1;have HX1:=hi_ hx0;have HX2:=hi_ hx1;clear h W hD hfw ha hb ht hl hlt hma hmb hx hy hb1 hx0 hx1
 go_enter Tryz.func23,Tryz.ntmps23
 go_upto_region 1 with fail
 generalize (w.alloc (.cells #[.int .i64 (a.1:Nat),.int .i64 (a.2:Nat)] 30)).alloc (.cells #[.int .i64 (b.1:Nat),.int .i64 (b.2:Nat)] 30)=w1 at *;obtain⟨a0,a1⟩:=cells2 HX1.out;have QTw:=hi_ (QT.out w1 (HM.out.below HB1.out));go_wp2_with fail
 refine QTw.out.mono ?_;rintro e w1' ⟨rfl,rfl⟩;go_wp2_with fail
 refine(QA.out w1 HB1.out).mono ?_;rintro e w2 ⟨v,rfl,hb2,hown⟩;obtain⟨ao,cap,hv⟩:=RecRow.slice hown;subst hv;have HB2:=bt_ HB1 hb2;have HY1:=hi_ (HX1.out.below hb2);have HY2:=hi_ (HX2.out.below hb2);have HO:=hi_ hown;clear hb2 hown HX1 HX2 a0 a1 QTw QA QT;obtain⟨a0,a1⟩:=cells2 HY1.out;have QFa:=hi_ (QF.out _ _ a w2 HO.out HMa.out);rw[HXx.out]at QFa;go_wp2_with fail
 refine QFa.out.mono ?_;rintro e w3 ⟨rfl,hb3⟩;have HB3:=bt_ HB2 hb3;have HZ2:=hi_ (HY2.out.below hb3);have HO3:=hi_ (own_below HO.out hb3);clear hb3 QFa a0 a1 HY1 HY2;go_wp2_with fail
 go_loopw [8,9] (fun v8 v9 wr=>∃i:Nat,v8=.string ⟨(textTo M.m l x i).toArray⟩/\v9=.int .i64 (i:Nat)/\x<=i/\(i<=y\/i=x)/\Hid (Below w.heap.size w wr)/\Hid (Blk (w.heap.size+1) #[.int .i64 (b.1:Nat),.int .i64 (b.2:Nat)] 30 wr)/\Hid (OwnP w1.heap.size wr (.slice ao l.length cap) l)) (fun _ v9 _=>l.length-(intOfV v9).toNat)
 case atStart=>exact⟨x,by rw[textTo_self],rfl,Nat.le_refl _,Or.inr rfl,HB3,HZ2,HO3⟩
 case round=>
  obtain⟨i,rfl,rfl,hxi,hiy,HBr,HBp,HOr⟩:=hrel;obtain⟨b0,b1⟩:=cells2 HBp.out;have QFb:=hi_ (QF.out _ _ b wr HOr.out HMb.out);rw[HYy.out]at QFb;have hil:i<l.length:=by rcases hiy with h|h<;>omega
  have hpm:l[i]∈l:=List.getElem_mem hil;have hp1:=(HIn.out _ hpm).1;have hpk:=(HIn.out _ hpm).2.2;have hps:=HSz.out l[i].1;have HSc:=hi_ (textTo_succ M.m hxi hil);have HOf:Hid (textOf M.m l[i]=if (nd M.m l[i].1).kind=3 then sl (U.pts (nd M.m l[i].1).data) l[i].2 (l[i].2+1) else[]):=hi_ rfl;have HNl:=hi_ (fun W' (hb:Below w.heap.size w W')=>(HM.out.below hb).cell hp1);have HTop:=hi_ (fun W' (hb:Below w.heap.size w W')=>(HM.out.below hb).top);obtain⟨g,cap',e,_,hgl,_⟩:=own_some HOr.out (by omega);injection e with e1 e2 e3
  subst e1 e3;have HRw:=hi_ (fun W' (ho:OwnP w1.heap.size W' (.slice (some ⟨g,0,none⟩) l.length cap) l)=>(⟨(RecRow.cell ptV_len ho hil (k:=0) (by omega)).1,(RecRow.cell ptV_len ho hil (k:=1) (by omega)).1⟩:W'.cell? ⟨g,i*2,none⟩=some (.int .i64 (l[i].1:Nat))/\W'.cell? ⟨g,i*2+1,none⟩=some (.int .i64 (l[i].2:Nat))));have hdl:=(HD.out l[i].1).1;have hdr:=(HD.out l[i].1).2;have HTi:=HTl.out x (i+1);generalize l[i]=pt at *;obtain⟨h,k⟩:=pt;dsimp only at hp1 hdl hdr hpk hps;have wk:IntKind.i64.wrap ((k:Int)+1)=(k:Int)+1:=IntWalk.i64_in _ (by omega);obtain⟨va,ca,hav⟩:=RecRow.slice (HM.out.attrsRow hp1);obtain⟨vk,ck,hkv,_⟩:=OwnN.form (HM.out.kidsRow hp1);rw[hav,hkv]at HNl;clear hav hkv;generalize (nd M.m h).attrs.length=na at *;generalize (nd M.m h).kids.length=nk at *;generalize (nd M.m h).kind=kd at *
  generalize (nd M.m h).name=nm at *;generalize (nd M.m h).data=dt at *;generalize parI (nd M.m h).parent=pi at *;generalize (nd M.m h).gone=gn at *;have n1:(h:Int)<(M.nodes.length:Int):=by omega
  have n0:(0:Int)<=(h:Int):=by omega
  have n2:(i:Int)<(l.length:Int):=by omega
  have n3:(0:Int)<=(i:Int):=by omega
  by_cases hlt:(i:Int)<(y:Int)
  ·go_wp2_with fail
   refine QFb.out.mono ?_;rintro e w4 ⟨rfl,hb4⟩;have HB4:=bt_ HBr hb4;have HP4:=hi_ (HBp.out.below hb4);have HO4:=hi_ (own_below HOr.out hb4);clear hb4 QFb b0 b1 HBr HBp HOr hgl;have HS0:=hi_ (fun W' (hb:Below w.heap.size w W') (ho:OwnP w1.heap.size W' (.slice (some ⟨g,0,none⟩) l.length cap) l)=>(⟨(HTop.out W' hb).1,HRw.out W' ho,HNl.out W' hb⟩:_/\_/\_));go_upto_region 6 with fail
   refine wp_region_flow (fun W'=>Below w.heap.size w W'/\OwnP w1.heap.size W' (.slice (some ⟨g,0,none⟩) l.length cap) l) 12 [(0,false),(1,false),(2,false),(3,false),(4,false),(5,false),(6,false),(7,false),(8,false),(9,false),(10,false),(11,true)] (by kernel_rfl) (by kernel_rfl) ⟨HB4.out.drew,own_below HO4.out (Below.refl w4.heap.size w4).drew⟩ ?_;iterate 11 (
    refine flow_get _ ?_ rfl (fun _ _ _ h=>h) (by rfl) ?_ ?_
    rotate_left
    focus (
     intro W' hS';obtain⟨s0,⟨s1,s2⟩,t0,t1,t2,t3,t4,t5,t6⟩:=HS0.out W' hS'.1 hS'.2;go_simp
     first|done|with_reducible rfl)
    simp only[Act.put,List.setIfInBounds_toArray,List.set_cons_zero,List.set_cons_succ])
   change wpFlow _ _ _ _ _ _ _ (World.drew w4);obtain⟨wd,hwd⟩:∃wd,wd=World.drew w4:=⟨_,rfl⟩;have HBd:Hid (Below w.heap.size w wd):=hi_ (by rw[hwd];exact HB4.out.drew);have HPd:Hid (Blk (w.heap.size+1) #[.int .i64 (b.1:Nat),.int .i64 (b.2:Nat)] 30 wd):=hi_ (by rw[hwd];exact HP4.out);have HOd:Hid (OwnP w1.heap.size wd (.slice (some ⟨g,0,none⟩) l.length cap) l):=hi_ (by rw[hwd];exact own_below HO4.out (Below.refl w4.heap.size w4).drew);rw[<-hwd];clear hwd;have HDa:=hi_ ((Below.refl wd.heap.size wd).alloc (Nat.le_refl _) (.cells #[.int .i64 0,.string ⟨#[]⟩,.slice none 0 0,.string ⟨#[]⟩,.int .i64 0,.slice none 0 0,.bool false] 105));have HNw:=hi_ (Blk.new wd #[.int .i64 0,.string ⟨#[]⟩,.slice none 0 0,.string ⟨#[]⟩,.int .i64 0,.slice none 0 0,.bool false] 105)
   refine flow_do _ rfl (fun K hK=>?_);go_simp
   refine hK _ _ ⟨HBd.out.trans (HDa.out.mono HBd.out.size),own_below HOd.out HDa.out⟩ ?_;clear hK K;show wpList _ _ _ _ _ _;simp only[List.drop_succ_cons,List.drop_zero];have HDk:=hi_ (fun z:Int=>(⟨(Below.refl wd.heap.size wd).alloc (Nat.le_refl _) (.cells #[.int .i64 (z),.string ⟨nm.toArray⟩,.slice va na ca,.string ⟨dt.toArray⟩,.int .i64 pi,.slice vk nk ck,.bool gn] 105),Blk.new wd #[.int .i64 z,.string ⟨nm.toArray⟩,.slice va na ca,.string ⟨dt.toArray⟩,.int .i64 pi,.slice vk nk ck,.bool gn] 105⟩:_/\_));have wi:IntKind.i64.wrap ((i:Int)+1)=(i:Int)+1:=IntWalk.i64_in _ (by omega)
   by_cases h3:kd=3
   ·subst h3
    go_upto_region 8 with fail
    obtain⟨hd6,hn6⟩:=HDk.out 3;have HB6:=bt_ HBd hd6;have HP6:=hi_ (HPd.out.below hd6);have HO6:=hi_ (own_below HOd.out hd6);have HN6:=hi_ hn6;clear hd6 hn6 HDk HDa HNw HOd HPd;generalize wd.alloc (.cells #[.int .i64 (3),.string ⟨nm.toArray⟩,.slice va na ca,.string ⟨dt.toArray⟩,.int .i64 pi,.slice vk nk ck,.bool gn] 105)=w6 at *;have QP:=hi_ (fun W'=>mPoints dt W' (by omega) hdr);have HSN:=hi_ (fun W' (hn:Blk wd.heap.size #[.int .i64 3,.string ⟨nm.toArray⟩,.slice va na ca,.string ⟨dt.toArray⟩,.int .i64 pi,.slice vk nk ck,.bool gn] 105 W')=>(cells_of hn).1 3)
    refine wp_region_flow (fun W'=>Blk wd.heap.size #[.int .i64 3,.string ⟨nm.toArray⟩,.slice va na ca,.string ⟨dt.toArray⟩,.int .i64 pi,.slice vk nk ck,.bool gn] 105 W'/\OwnP w1.heap.size W' (.slice (some ⟨g,0,none⟩) l.length cap) l) 16 [(0,false),(1,false),(2,false),(4,false),(5,false),(6,false),(7,false),(8,false),(9,false),(10,false),(11,false),(12,false),(13,false),(14,false),(3,true),(15,true)] (by kernel_rfl) (by kernel_rfl) ⟨HN6.out.below (Below.refl w6.heap.size w6).drew,own_below HO6.out (Below.refl w6.heap.size w6).drew⟩ ?_;iterate 14 (
     refine flow_get _ ?_ rfl (fun _ _ _ h=>h) (by rfl) ?_ ?_
     rotate_left
     focus (
      intro W' hS';have s0:=HSN.out W' hS'.1;obtain⟨s1,s2⟩:=HRw.out W' hS'.2;go_simp
      first|done|with_reducible rfl)
     simp only[Act.put,List.setIfInBounds_toArray,List.set_cons_zero,List.set_cons_succ])
    change wpFlow _ _ _ _ _ _ _ (World.drew w6);obtain⟨w7,hwd⟩:∃w7,w7=World.drew w6:=⟨_,rfl⟩;have HB7:Hid (Below w.heap.size w w7):=hi_ (by rw[hwd];exact HB6.out.drew);have HD7:Hid (Below w6.heap.size w6 w7):=hi_ (by rw[hwd];exact(Below.refl w6.heap.size w6).drew);rw[<-hwd];clear hwd;have HP7:=hi_ (HP6.out.below HD7.out);have HO7:=hi_ (own_below HO6.out HD7.out);have HN7:=hi_ (HN6.out.below HD7.out);clear HB6 HP6 HO6 HN6 HD7;refine flow_do _ rfl (fun K hK=>?_);go_simp
    go_at_call 57
    refine(QP.out w7).mono ?_;rintro e w8 ⟨v8,rfl,hown8,hb8⟩;obtain⟨ao8,cap8,hv8,hsr8⟩:=pts_row hown8;subst hv8;have HB8:=bt_ HB7 hb8;have HP8:=hi_ (HP7.out.below hb8);have HO8:=hi_ (own_below HO7.out hb8);have HN8:=hi_ (HN7.out.below hb8);have hpl:=U.pts_length dt;have hfl:(U.pts dt).flatten.length<=1000000:=by
     have e:(U.pts dt).flatten=dt:=hdr;rw[e];omega
    have QJ:=hi_ (Go.Proofs.YtinphfpdfodkkaaGreatDoor.T.refJoin2 ao8 cap8 (U.pts dt) (k:Nat) ((k:Int)+1) k w8 hfl (by omega) hsr8 (by omega));rw[show((k:Int)+1).toNat=k+1 by omega]at QJ;obtain⟨pc,hpc⟩:∃pc,pc=Go.Proofs.YtinphfpdfodkkaaGreatDoor.U.sl (U.pts dt) k (k+1):=⟨_,rfl⟩;rw[<-hpc]at QJ;have HPc:Hid (textOf M.m (h,k)=pc):=hi_ (by rw[HOf.out,if_pos rfl,hpc];rfl);clear hown8 hsr8 hb8 HB7 HP7 HO7 HN7 QP hpl hfl hpc;go_simp
    refine hK _ _ ⟨HN8.out,HO8.out⟩ ?_;clear hK K;try simp only[Act.put,List.setIfInBounds_toArray,List.set_cons_zero,List.set_cons_succ]
    refine flow_do _ rfl (fun K hK=>?_);go_simp
    go_at_call 56
    refine QJ.out.mono ?_;rintro e w9 ⟨rfl,rfl⟩;go_simp
    refine hK _ _ ⟨HN8.out,HO8.out⟩ ?_;clear hK K QJ;show wpList _ _ _ _ _ _;simp only[List.drop_succ_cons,List.drop_zero];have hpl:pc.length+(textTo M.m l x i).length<=100001000000000:=by
     have h1:=HTi;rw[HSc.out,HPc.out,List.length_append]at h1;omega
    have hab:=append_bytes (textTo M.m l x i) pc;have HAB:=hi_ hab;have HTx:Hid (textTo M.m l x (i+1)=textTo M.m l x i++pc):=hi_ (by rw[HSc.out,HPc.out]);clear hab HTi;generalize textTo M.m l x i=tx at *;have z1:=bytes_size tx;have z2:=bytes_size pc;have zz:((⟨tx.toArray⟩:ByteArray).size:Int)+((⟨pc.toArray⟩:ByteArray).size:Int)<=100001000000000:=by omega
    clear z1 z2 hpl;go_wp2_with fail
    go_roundw
    case rel=>exact⟨i+1,by rw[HTx.out];simp only[HAB.out],by go_num,by omega,Or.inl (by omega),HB8,HP8,HO8⟩
    case measure=>simp[intOfV];omega
   ·have e1:((kd:Int)==3)=false:=beq_eq_false_iff_ne.2 (by omega)
    have e2:¬(kd:Int)=3:=by omega
    have HPc:Hid (textOf M.m (h,k)=[]):=hi_ (by rw[HOf.out,if_neg h3]);have HTx:Hid (textTo M.m l x (i+1)=textTo M.m l x i):=hi_ (by rw[HSc.out,HPc.out,List.append_nil]);obtain⟨hd6,hn6⟩:=HDk.out (kd:Nat);have HB6:=bt_ HBd hd6;have HP6:=hi_ (HPd.out.below hd6);have HO6:=hi_ (own_below HOd.out hd6);clear hd6 hn6 HDk HDa HNw HOd HPd h3;go_wp2_with fail
    go_roundw
    case rel=>exact⟨i+1,by rw[HTx.out],by go_num,by omega,Or.inl (by omega),HB6,HP6,HO6⟩
    case measure=>simp[intOfV];omega
  ·have HF:Hid (RT=textTo M.m l x i):=hi_ (by
    rw[HRes.out]
    rcases hiy with h|h
    ·have:i=y:=by omega
     rw[this]
    ·unfold textTo
     rw[show y-x=0 by omega,show i-x=0 by omega])
   have hlt2:¬i<y:=by omega
   go_wp2_with fail
   refine QFb.out.mono ?_;rintro e w4 ⟨rfl,hb4⟩;have HB4:=bt_ HBr hb4;clear hb4 QFb b0 b1 HBr HBp HOr hgl;go_wp2_with fail
   exact bodyPost_ret (v:=.string ⟨(textTo M.m l x i).toArray⟩) (by simp[results,Tryz.results23,go_sem]) rfl ⟨by rw[HF.out],HB4.out⟩
end R
end
section
open Go.RowKit Go.Sort
namespace A
open H G R
theorem setEnd_ok(T:TMem)(m:Model)(pos:Nat->Nat)(S:SMem)(id:Int)(i:Nat)(a b:Nat×Nat)(w:World)(hT:TreeIs w T m pos)(hS:SetMem w S)(hm:Small m)(hfi:findR S.rs id=some i)(hi:i<S.rs.length)
  (ha:has m a.1=true) (ka:a.2<=G.sizeOf m a.1) (kA:a.2<=1000000) (hb:has m b.1=true) (kb:b.2<=G.sizeOf m b.1) (kB:b.2<=1000000) (hbz:S.rs[i].sn=hd T pos b.1) (hbk:S.rs[i].si=(b.2:Nat)) :
  Calls Tryz.prog 19 #[.pointer (some ⟨S.sb,0,none⟩),.pointer (some ⟨T.tb,0,none⟩),.int .i64 id,pointV (hd T pos a.1) (a.2:Nat)] w fun e w'=>e=.returned (.int .i64 0)/\H.Frame S.foot w w' ∧
   SetMem w' { S with rs:=S.rs.modify i (movedEnd m a b (hd T pos a.1) (a.2:Nat)) }:=by
 have hb1:=((Below.refl w.heap.size w).alloc (Nat.le_refl _) (.cells #[.int .i64 (hd T pos a.1),.int .i64 (a.2:Nat)] 31));obtain⟨b0,b1⟩:=cells2 (Blk.new w #[.int .i64 (hd T pos a.1),.int .i64 (a.2:Nat)] 31);have HB1:=hi_ hb1;have Q:=hi_ (setEnd_in T m pos S id i a b _ (hT.below hb1) (hS.below hb1) hm hfi hi ha ka kA hb kb kB hbz hbk);generalize movedEnd m a b (hd T pos a.1) (a.2:Nat)=MV at *;generalize hd T pos a.1=za at *;generalize ((a.2:Nat):Int)=ak at *;unfold pointV at *;clear hT hS hm hfi hi ha ka kA hb kb kB hbz hbk hb1
 go_enter Tryz.func19,Tryz.ntmps19
 go_wp2_with fail
 refine Q.out.mono ?_;rintro e w2 ⟨rfl,hf2,hs2⟩;have HF2:=hi_ ((Frame.of HB1.out).trans hf2 (fun b hb=>Or.inl hb));have HS2:=hi_ hs2;clear hf2 hs2 Q;go_wp2_with fail
 refine bodyPost_ret (v:=.int .i64 0) (by simp[results,Tryz.results19,go_sem]) rfl ⟨rfl,HF2.out,HS2.out⟩
end A
end
section
open Go.RowKit Go.Shelf
attribute [local go_sem] Oper.semAt_some
namespace A
open H G T
def txAcc(m:Model)(a b:Nat×Nat)(k:Nat):Bytes:=((walk m (top m a.1)).take k).flatMap (pieceOf m a b)
theorem txAcc_next(m:Model)(a b:Nat×Nat){k:Nat}(hk:k<(walk m (top m a.1)).length):txAcc m a b (k+1)=txAcc m a b k++pieceOf m a b ((walk m (top m a.1)).getD k 0):=by
 unfold txAcc;rw[List.take_add_one,List.flatMap_append]
 congr 1
 simp[List.getD,List.getElem?_eq_getElem hk]
theorem tx_mem{l:List Nat}{k:Nat}(hk:k<l.length):l.getD k 0∈l:=by
 have e:l.getD k 0=l[k]:=by simp[List.getD,List.getElem?_eq_getElem hk]
 rw[e];exact List.getElem_mem hk
theorem txAcc_le(m:Model)(a b:Nat×Nat)(k:Nat):(txAcc m a b k).length<=(progText m a b).length:=by
 unfold txAcc progText
 conv=>rhs;rw[<-List.take_append_drop k (walk m (top m a.1)),List.flatMap_append,List.length_append]
 omega
theorem tx_range(n:Nat)(Q:Exit->Act->World->Prop)(w W0:World)(T:TMem)(m:Model)(pos:Nat->Nat)(a b:Nat×Nat)(b4 b8 g o b1 b2:Nat)(x0 x1 x2 x3 x5 x6 x7 x10 x11 x12 x13 x14 x15 x16 x17 x18 x19 x20 x21 x22 x23 x24 x25 x26 x27 x28 x29 x30 x31 x32 x33 x34 x35 x36 x37 x38 x39 x40 x41 x42 x43 x44 x45 x46 x47 x48 x49 x50 x51 x52 x53 x54 x55 x56 x57 x58 x59 x60 x61 x62 x63 x64 x65 x66 x67 x68 x69 x70 x71 x72 x73 x74 x75 x76 x77 x78 x79 x80 x81 x82 x83 x84 x85 x86 x87 x88:Value)
  (hx:x28=.func (.func 98) #[] #[.pointer (some ⟨b1,0,none⟩),.pointer (some ⟨b2,0,none⟩)])
  (hT:TreeIs W0 T m pos) (hS:Small m) (hTab:Tabs W0) (ha:has m a.1=true) (hbh:has m b.1=true) (oa:okPt m a.1 (a.2:Nat)=true) (ob:okPt m b.1 (b.2:Nat)=true) (ka:a.2<=1000000) (kb:b.2<=1000000) (hab:top m b.1=top m a.1)
  (hM:TxMem W0 T (hd T pos a.1) (a.2:Nat) (hd T pos b.1) (b.2:Nat) b4 b8 g o) (hlen:(progText m a b).length<=1000000000)
  (hbld:BldIs W0.heap.size [] w) (hw:Below W0.heap.size W0 w) (hb1:b1<w.heap.size) (hb2:b2<w.heap.size) (c1:w.cell? ⟨b1,0,none⟩=some (.pointer (some ⟨T.tb,0,none⟩))) (c2:w.cell? ⟨b2,0,none⟩=some (.int .i64 (hd T pos (top m a.1))))
  (hQ:∀W,BldIs W0.heap.size (progText m a b) W->Below W0.heap.size W0 W->W.heap[w.heap.size]?=some (.deferred (some []))->W0.heap.size<w.heap.size →
   Q .normal { tmps:=#[x0,x1,x2,x3,.pointer (some ⟨b4,0,none⟩),x5,x6,x7,.pointer (some ⟨b8,0,none⟩),.pointer (some ⟨W0.heap.size,0,none⟩),x10,x11,x12,x13,x14,x15,x16,x17,x18,x19,x20,x21,x22,x23,x24,x25,x26,x27,x28,x29,x30,x31,x32,x33,x34,x35,x36,x37,x38,x39,x40,x41,x42,x43,x44,x45,x46,x47,x48,x49,x50,x51,x52,x53,x54,x55,x56,x57,x58,x59,x60,x61,x62,x63,x64,x65,x66,x67,x68,x69,x70,x71,x72,x73,x74,x75,x76,x77,x78,x79,x80,x81,x82,x83,x84,x85,x86,x87,x88],defers:=[{ target:=.collected w.heap.size,args:=#[] }] } W) :
  (Code.rangeFunc (Operand.tmp 28) #[29] txLoop.1 txLoop.2).wpIn Fence.wide n Tryz.prog Q { tmps:=#[x0,x1,x2,x3,.pointer (some ⟨b4,0,none⟩),x5,x6,x7,.pointer (some ⟨b8,0,none⟩),.pointer (some ⟨W0.heap.size,0,none⟩),x10,x11,x12,x13,x14,x15,x16,x17,x18,x19,x20,x21,x22,x23,x24,x25,x26,x27,x28,x29,x30,x31,x32,x33,x34,x35,x36,x37,x38,x39,x40,x41,x42,x43,x44,x45,x46,x47,x48,x49,x50,x51,x52,x53,x54,x55,x56,x57,x58,x59,x60,x61,x62,x63,x64,x65,x66,x67,x68,x69,x70,x71,x72,x73,x74,x75,x76,x77,x78,x79,x80,x81,x82,x83,x84,x85,x86,x87,x88],defers:=[] } w:=by
 have hbs:=hbld.lt;have hW:=hT.fits.wf;have hc:=top_has hT.fits _ ha;refine wpIn_rangeFunc ?_;intro fn hfn;obtain⟨W1,hW1⟩:∃W1,(w.alloc (.deferred (some []))).alloc (.loop (txRec fn #[x0,x1,x2,x3,.pointer (some ⟨b4,0,none⟩),x5,x6,x7,.pointer (some ⟨b8,0,none⟩),.pointer (some ⟨W0.heap.size,0,none⟩),x10,x11,x12,x13,x14,x15,x16,x17,x18,x19,x20,x21,x22,x23,x24,x25,x26,x27,x28,x29,x30,x31,x32,x33,x34,x35,x36,x37,x38,x39,x40,x41,x42,x43,x44,x45,x46,x47,x48,x49,x50,x51,x52,x53,x54,x55,x56,x57,x58,x59,x60,x61,x62,x63,x64,x65,x66,x67,x68,x69,x70,x71,x72,x73,x74,x75,x76,x77,x78,x79,x80,x81,x82,x83,x84,x85,x86,x87,x88] w.heap.size .ready none))=W1:=⟨_,rfl⟩;have hb1':Below w.heap.size w W1:=by rw[<-hW1];exact((Below.refl w.heap.size w).alloc (Nat.le_refl _) _).alloc (by simp) _
 have hs1:W1.heap.size=w.heap.size+2:=by rw[<-hW1];simp
 have hM1:TxAt W0 fn #[x0,x1,x2,x3,.pointer (some ⟨b4,0,none⟩),x5,x6,x7,.pointer (some ⟨b8,0,none⟩),.pointer (some ⟨W0.heap.size,0,none⟩),x10,x11,x12,x13,x14,x15,x16,x17,x18,x19,x20,x21,x22,x23,x24,x25,x26,x27,x28,x29,x30,x31,x32,x33,x34,x35,x36,x37,x38,x39,x40,x41,x42,x43,x44,x45,x46,x47,x48,x49,x50,x51,x52,x53,x54,x55,x56,x57,x58,x59,x60,x61,x62,x63,x64,x65,x66,x67,x68,x69,x70,x71,x72,x73,x74,x75,x76,x77,x78,x79,x80,x81,x82,x83,x84,x85,x86,x87,x88] (w.heap.size+1) w.heap.size (txAcc m a b) 0 W1:=
  ⟨hbld.below hb1',
   by rw[<-hW1];have:=World.alloc_heap_new (w.alloc (.deferred (some []))) (.loop (txRec fn #[x0,x1,x2,x3,.pointer (some ⟨b4,0,none⟩),x5,x6,x7,.pointer (some ⟨b8,0,none⟩),.pointer (some ⟨W0.heap.size,0,none⟩),x10,x11,x12,x13,x14,x15,x16,x17,x18,x19,x20,x21,x22,x23,x24,x25,x26,x27,x28,x29,x30,x31,x32,x33,x34,x35,x36,x37,x38,x39,x40,x41,x42,x43,x44,x45,x46,x47,x48,x49,x50,x51,x52,x53,x54,x55,x56,x57,x58,x59,x60,x61,x62,x63,x64,x65,x66,x67,x68,x69,x70,x71,x72,x73,x74,x75,x76,x77,x78,x79,x80,x81,x82,x83,x84,x85,x86,x87,x88] w.heap.size .ready none));rwa [World.size_alloc]at this,
   by rw[<-hW1];exact(Below.heap_alloc _ _ _ (by simp)).trans (World.alloc_heap_new w _),hw.trans (hb1'.mono hw.size)⟩
 refine⟨w.heap.size+1,[{ target:=.collected w.heap.size,args:=#[] }],W1,{ target:=.fn (.func 98) #[.pointer (some ⟨b1,0,none⟩),.pointer (some ⟨b2,0,none⟩)],args:=#[.func (.yield (w.heap.size+1)) #[] #[]] },W1,98,
  #[.func (.yield (w.heap.size+1)) #[] #[]] ++ #[.pointer (some ⟨b1,0,none⟩),.pointer (some ⟨b2,0,none⟩)],W1,?_,?_,?_,?_,fun h=>(by cases h),?_⟩
 ·rw[<-hW1];exact run_enterLoop_outer _ _ _ _ _
 ·simp[resolve,go_sem,hx]
 ·intro f' hf';trivial
 ·simp[invoke,go_sem,enters_of Tryz.func98 (by kernel_rfl) rfl]
 ·have K:=tx_keeps (fn:=fn) (ts:=#[x0,x1,x2,x3,.pointer (some ⟨b4,0,none⟩),x5,x6,x7,.pointer (some ⟨b8,0,none⟩),.pointer (some ⟨W0.heap.size,0,none⟩),x10,x11,x12,x13,x14,x15,x16,x17,x18,x19,x20,x21,x22,x23,x24,x25,x26,x27,x28,x29,x30,x31,x32,x33,x34,x35,x36,x37,x38,x39,x40,x41,x42,x43,x44,x45,x46,x47,x48,x49,x50,x51,x52,x53,x54,x55,x56,x57,x58,x59,x60,x61,x62,x63,x64,x65,x66,x67,x68,x69,x70,x71,x72,x73,x74,x75,x76,x77,x78,x79,x80,x81,x82,x83,x84,x85,x86,x87,x88]) (l:=w.heap.size+1) (D:=w.heap.size) (acc:=txAcc m a b) hT
  refine(walk12_in T m pos W0 hT (top m a.1) hc (w.heap.size+1) (txOwn W0.heap.size (w.heap.size+1)) _ K
   (fun n' k W hJ hk=>txYield n' W0 T m pos a b fn b4 b8 g o (w.heap.size+1) w.heap.size x0 x1 x2 x3 x5 x6 x7 x10 x11 x12 x13 x14 x15 x16 x17 x18 x19 x20 x21 x22 x23 x24 x25 x26 x27 x28 x29 x30 x31 x32 x33 x34 x35 x36 x37 x38 x39 x40 x41 x42 x43 x44 x45 x46 x47 x48 x49 x50 x51 x52 x53 x54 x55 x56 x57 x58 x59 x60 x61 x62 x63 x64 x65 x66 x67 x68 x69 x70 x71 x72 x73 x74 x75 x76 x77 x78 x79 x80 x81 x82 x83 x84 x85 x86 x87 x88 hT hS hTab ha hbh oa ob ka kb hab hM (by omega) hbs (by omega) _ (WF.walk_has hW _ hc _ (tx_mem hk)) (G.WF.walk_top hW (has_lt ha) (tx_mem hk)).1 (txAcc m a b) k W hJ (txAcc_next m a b hk) (Nat.le_trans (txAcc_le m a b (k+1)) hlen)) _ b1 b2 W1 hM1 (by omega) (by omega) ((hb1'.cell (p:=⟨b1,0,none⟩) hb1).trans c1) ((hb1'.cell (p:=⟨b2,0,none⟩) hb2).trans c2)).mono ?_
  rintro e W2 ⟨⟨v0,rfl⟩,h2⟩;have hend:=run_endLoop (P:=Tryz.prog) h2.L (by simp[txRec]);obtain⟨W3,hW3⟩:∃W3,W2.putObj (w.heap.size+1) (.loop { txRec fn #[x0,x1,x2,x3,.pointer (some ⟨b4,0,none⟩),x5,x6,x7,.pointer (some ⟨b8,0,none⟩),.pointer (some ⟨W0.heap.size,0,none⟩),x10,x11,x12,x13,x14,x15,x16,x17,x18,x19,x20,x21,x22,x23,x24,x25,x26,x27,x28,x29,x30,x31,x32,x33,x34,x35,x36,x37,x38,x39,x40,x41,x42,x43,x44,x45,x46,x47,x48,x49,x50,x51,x52,x53,x54,x55,x56,x57,x58,x59,x60,x61,x62,x63,x64,x65,x66,x67,x68,x69,x70,x71,x72,x73,x74,x75,x76,x77,x78,x79,x80,x81,x82,x83,x84,x85,x86,x87,x88] w.heap.size .ready none with state:=.exhausted })=W3:=⟨_,rfl⟩;rw[hW3]at hend;have hg3:W2.grownBy W3 (some (w.heap.size+1)):=by rw[<-hW3];exact grownBy_putObj_a _ _ _
  have hF3:H.Frame (fun k=>k=w.heap.size+1) W2 W3:=H.Frame.grown (S:=fun k=>k=w.heap.size+1) (H.Frame.refl _ W2) hg3 (fun k e=>by cases e;exact Or.inl rfl);refine⟨none,W3,hend,?_⟩;refine hQ W3 ?_ (h2.old.trans ⟨hF3.os,hF3.tape,hF3.output,hF3.size,fun i hi=>hF3.block i (Nat.lt_of_lt_of_le hi h2.old.size) (fun e=>by omega)⟩) ((hF3.block _ (lt_of_block h2.K) (by omega)).trans h2.K) hbs
  have h3:=h2.bld.put h2.L (.loop { txRec fn #[x0,x1,x2,x3,.pointer (some ⟨b4,0,none⟩),x5,x6,x7,.pointer (some ⟨b8,0,none⟩),.pointer (some ⟨W0.heap.size,0,none⟩),x10,x11,x12,x13,x14,x15,x16,x17,x18,x19,x20,x21,x22,x23,x24,x25,x26,x27,x28,x29,x30,x31,x32,x33,x34,x35,x36,x37,x38,x39,x40,x41,x42,x43,x44,x45,x46,x47,x48,x49,x50,x51,x52,x53,x54,x55,x56,x57,x58,x59,x60,x61,x62,x63,x64,x65,x66,x67,x68,x69,x70,x71,x72,x73,x74,x75,x76,x77,x78,x79,x80,x81,x82,x83,x84,x85,x86,x87,x88] w.heap.size .ready none with state:=.exhausted });rw[hW3]at h3;have e:txAcc m a b (walk m (top m a.1)).length=progText m a b:=by unfold txAcc progText;rw[List.take_length]
  rw[e]at h3;exact h3
end A
end
end Go.Proofs.YtinphfpdfodkkaaGreatDoor
