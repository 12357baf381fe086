/- Texts of the proof. -/
import Derived.Test.YtinphfpdfodkkaaGreatDoorM01
import Derived.Test.YtinphfpdfodkkaaGreatDoorM03
import Derived.Test.YtinphfpdfodkkaaGreatDoorM04
import Derived.Lib.ValidLaws
import Derived.Lib.OthersKept
import Derived.Lib.IndexAny
import Derived.Deep.DeepCutAuto
import Derived.WalkMore
import Derived.Lib.SliceRun
import Derived.Lib.OwnBridge
set_option linter.unusedVariables false
set_option linter.unusedSimpArgs false
set_option maxHeartbeats 8000000
set_option maxRecDepth 100000
namespace Go.Proofs.YtinphfpdfodkkaaGreatDoor
section
open Go.RowKit
namespace U
def raws:Nat->List UInt8->List (List UInt8)
 |0,_=>[]
 |n+1,l=>if l=[] then[]else l.take (adv l) :: raws n (l.drop (adv l))
def raw(l:List UInt8):List (List UInt8):=raws l.length l
theorem raws_more:∀(n m:Nat) (l:List UInt8),l.length<=n->l.length<=m->raws n l=raws m l
 |0,0,_,_,_=>rfl
 |0,m+1,l,h,_=>by
  have:l=[]:=List.eq_nil_of_length_eq_zero (by omega);simp[raws,this]
 |n+1,0,l,_,h=>by
  have:l=[]:=List.eq_nil_of_length_eq_zero (by omega);simp[raws,this]
 |n+1,m+1,l,h1,h2=>by
  unfold raws
  by_cases hl:l=[]
  ·simp[hl]
  ·have ha:=adv_pos l
   have hlen:0<l.length:=List.length_pos_iff.2 hl;rw[if_neg hl,if_neg hl,raws_more n m (l.drop (adv l)) (by simp;omega) (by simp;omega)]
theorem raw_nil:raw []=[]:=rfl
theorem raw_cons(l:List UInt8)(h:l≠[]):raw l=l.take (adv l) :: raw (l.drop (adv l)):=by
 have hl:0<l.length:=List.length_pos_iff.2 h;have ha:=adv_pos l;unfold raw;obtain⟨n,hn⟩:∃n,l.length=n+1:=⟨l.length-1,by omega⟩;rw[hn]
 conv=>lhs;unfold raws
 rw[if_neg h,raws_more n (l.drop (adv l)).length (l.drop (adv l)) (by simp;omega) (by simp)]
theorem raw_rep:∀(n:Nat) (l:List UInt8),l.length<=n->raw (rep l)=pts l
 |0,l,h=>by
  have:l=[]:=List.eq_nil_of_length_eq_zero (by omega);subst this;rfl
 |n+1,l,h=>by
  by_cases hl:l=[]
  ·subst hl;rfl
  ·have ha:=adv_pos l
   rw[rep_cons l hl,raw_cons _ (ne_nil_chunk l _ hl),adv_chunk l _ hl,pts_cons l hl];rw[List.take_left,List.drop_left,raw_rep n _ (by simp;omega)]
theorem raw_of_rep(l:List UInt8):raw (rep l)=pts l:=raw_rep l.length l (Nat.le_refl _)
theorem raws_length:∀(n:Nat) (l:List UInt8),(raws n l).length<=n
 |0,_=>by simp[raws]
 |n+1,l=>by
  unfold raws
  split
  ·simp
  ·have:=raws_length n (l.drop (adv l));simp;omega
theorem chunks_length:∀(n:Nat) (l:List UInt8),(chunks n l).length<=n
 |0,_=>by simp[chunks]
 |n+1,l=>by
  unfold chunks
  split
  ·simp
  ·have:=chunks_length n (l.drop (adv l));simp;omega
theorem pts_length(l:List UInt8):(pts l).length<=l.length:=chunks_length _ _
theorem rep_length:∀(n:Nat) (l:List UInt8),l.length<=n->(rep l).length<=3*l.length
 |0,l,h=>by
  have:l=[]:=List.eq_nil_of_length_eq_zero (by omega);subst this;simp[rep_nil]
 |n+1,l,h=>by
  by_cases hl:l=[]
  ·subst hl;simp[rep_nil]
  ·have ha:=adv_pos l
   have hle:=adv_le l hl;have ih:=rep_length n (l.drop (adv l)) (by simp;omega);rw[rep_cons l hl,List.length_append];rw[List.length_drop]at ih;have hc:(chunk l).length<=3*adv l:=by
    unfold chunk adv
    split
    ·simp
    ·rename_i h0;simp;omega
   omega
theorem rep_le(l:List UInt8):(rep l).length<=3*l.length:=rep_length l.length l (Nat.le_refl _)
end U
namespace T
theorem infoString:(Tryz.prog.info? 9).map (fun i=>(i.zero,i.size,i.bytes))=some (some (.string ByteArray.empty),1,16):=by kernel_rfl
def strs(l:List (List UInt8)):List Value:=l.map fun c=>.string ⟨c.toArray⟩
theorem strs_length(l:List (List UInt8)):(strs l).length=l.length:=by simp[strs]
theorem strs_snoc(l:List (List UInt8))(c:List UInt8):strs (l++[c])=strs l++[.string ⟨c.toArray⟩]:=by simp[strs]
theorem extract_eq(s:ByteArray)(k n:Nat)(h:k+n<=s.size):s.extract k (k+n)=⟨((s.data.toList.drop k).take n).toArray⟩:=by
 have:=extract_list s k n h
 cases h2:s.extract k (k+n) with
 |mk a=>rw[h2]at this;simp at this;rw[<-this]
def PtsRel(s:ByteArray)(w:World)(v i:Value)(wr:World):Prop:=
 ∃(k:Nat) (acc:List (List UInt8)),k<=s.size/\i=.int .i64 k/\wr.ownsRow w.heap.size 9 1 v acc.length (strs acc)/\Below w.heap.size w wr/\Hid (acc++U.raw (s.data.toList.drop k)=U.raw s.data.toList)/\acc.length<=k
theorem refPoints(s:ByteArray)(w:World)(hs:s.size<=1000000) :
  Calls Tryz.prog 57 #[.string s] w fun e w'=>∃v,e=.returned v/\w'.ownsRow w.heap.size 9 1 v (U.raw s.data.toList).length (strs (U.raw s.data.toList))/\Below w.heap.size w w':=by
 obtain⟨i0,hi,hz0,hz1,hz2⟩:=info_parts infoString
 go_enter Tryz.func57,Tryz.ntmps57
 go_wp2_with fail
 go_loopw [3,4] (fun v i wr=>PtsRel s w v i wr) (fun _ i _=>s.size-(Go.RowKit.intOf i).toNat)
 case atStart=>exact⟨0,[],Nat.zero_le _,rfl,World.ownsRow_nil _ _ _ _,Below.refl _ _,hi_ rfl,Nat.zero_le _⟩
 case round=>
  obtain⟨k,acc,hk,rfl,hown,hB,HA,hal⟩:=hrel;have hbs:=hB.size
  by_cases hlt:k<s.size
  ·have hne:s.data.toList.drop k≠[]:=by rw[drop_cons s k hlt];exact List.cons_ne_nil _ _
   have HN:=hi_ (U.raw_cons _ hne);have hle:=U.adv_le _ hne;have hpos:=U.adv_pos (s.data.toList.drop k);rw[List.length_drop,U.list_size]at hle;clear hne;have hc:∀W,Calls Tryz.prog 105 #[.string s,.int .i64 k] W fun e w'=>e=.returned (.int .i64 (U.sz (s.data.toList.drop k)))/\W=w':=fun W=>by
    have:=refSize s (k:Int) W (by omega) (by omega) (by omega);rw[Int.toNat_natCast]at this;exact this
   have hadv:=U.adv.eq_1 (s.data.toList.drop k);generalize U.sz (s.data.toList.drop k)=z at *;generalize hm:U.adv (s.data.toList.drop k)=m at *;have HM:=hi_ hm;have HC:=hi_ hc;have HV:=hi_ hadv;clear hc hm hadv;have hkm:k+m<=s.size:=by omega
   have hkm':(k:Int)+(m:Int)<=(s.size:Int):=by omega
   have hmx:max (z:Int) 1=(m:Int):=by rw[HV.out];split<;>omega
   have HX:=hi_ (extract_eq s k m hkm);go_wp2_with (first|(go_at_call 105;refine(HC.out _).mono ?_;rintro e w' ⟨rfl,rfl⟩)|(at_builtin;refine wpList_append_own _ rfl _ _ 138 rfl w.heap.size 9 i0 (.string ByteArray.empty) 1 16 Tryz.underlying138 hi hz0 hz1 hz2 rfl (by decide) _ _ _ rfl (hown.alloc _) ⟨wr.heap.size,0,none⟩ 1 1 [.string (s.extract k (k+m))] rfl rfl ?c1 ?c2 ?c3 ?c4 ?c5 ?_))
   case c1=>exact cell_one_new _ _ _
   case c2=>intro u hu;simp at hu;subst hu;rfl
   case c3=>unfold maxLen;omega
   case c4=>omega
   case c5=>simp;omega
   intro v' w2 hown' hgrow _;have hB2:=(hB.alloc hbs (.cells #[.string (s.extract k (k+m))] 9)).grown hgrow (by simp;omega) (fun q hq=>(hown.lt q hq).1);rw[HX.out]at hown';go_wp2_with fail
   go_roundw
   case rel=>
    refine⟨k+m,acc++[(s.data.toList.drop k).take m],by omega,by go_num,?_,hB2,hi_ ?_,by simp;omega⟩
    ·rw[strs_snoc];simpa using hown'
    ·have h3:=HA.out
     rw[HN.out,List.drop_drop]at h3;rw[<-h3];simp
   case measure=>simp[Go.RowKit.intOf];omega
  ·have h3:=HA.out
   rw[drop_end s k hlt,U.raw_nil,List.append_nil]at h3;rw[h3]at hown;have HO:=hi_ hown;clear h3 hown;go_wp2_with fail
   go_ret
   exact⟨_,rfl,HO.out,hB⟩
end T
end
section
namespace G
structure Rec where
 kind:Nat
 target:Nat
 node:Option Nat
 prev:Option Nat
 next:Option Nat
 index:Nat
 name:Bytes
 old:Bytes
 had:Bool
 count:Nat
 size:Nat
def prevAt(l:List Nat)(i:Nat):Option Nat:=if i=0 then none else l[i-1]?
def cutRec(m:Model)(h p:Nat):Rec:=⟨2,p,some h,prevAt (nd m p).kids ((nd m p).kids.idxOf h),(nd m p).kids[(nd m p).kids.idxOf h+1]?,(nd m p).kids.idxOf h,[],[],false,0,0⟩
def putRec(m:Model)(p h i:Nat):Rec:=⟨1,p,some h,prevAt (nd m p).kids i,(nd m p).kids[i]?,i,[],[],false,0,0⟩
def may(m:Model)(p h:Nat):Bool:=
 !((nd m h).kind==1) && !(contains m h p) && ((nd m p).kind==2 || ((nd m p).kind==1 && (nd m h).kind==4) || ((nd m p).kind==1 && (nd m h).kind==2 && (nd m p).kids.all (fun k=>k==h || (nd m k).kind != 2)))
def out(m:Model)(h:Nat):Model:=match (nd m h).parent with|none=>m|some q=>cut m h q
def outRec(m:Model)(h:Nat):List Rec:=match (nd m h).parent with|none=>[]|some q=>[cutRec m h q]
def beforeOf(m:Model)(h:Nat)(b:Option Nat):Option Nat:=
 if b=some h then(match (nd m h).parent with|none=>none|some q=>(nd m q).kids[(nd m q).kids.idxOf h+1]?)else b
def placeOf(m:Model)(p:Nat)(b:Option Nat):Nat:=match b with|none=>(nd m p).kids.length|some x=>(nd m p).kids.idxOf x
def insert(m:Model)(p h:Nat)(b:Option Nat):List Rec×Nat×Model:=
 if may m p h=false\/(∃x,b=some x/\(nd m x).parent≠some p) then([],10,m)
 else if 128<depth m p+height m h then([],5,m)
 else(outRec m h++[putRec (out m h) p h (placeOf (out m h) p (beforeOf m h b))],0,put (out m h) p h (placeOf (out m h) p (beforeOf m h b)))
theorem anc_cut{m:Model}(W:WF m){h q:Nat}(hq:(nd m h).parent=some q)(x:Nat):contains m h x=false->anc (cut m h q) x=anc m x:=by
 have W':=W.cut hq;obtain⟨h1,h2⟩:=W.lt hq;have hP:∀j,(nd (cut m h q) j).parent=if j=h then none else(nd m j).parent:=fun j=>by rw[nd_cut h1 h2]
 refine W.up_ind (P:=fun x=>contains m h x=false->anc (cut m h q) x=anc m x) (fun x hx hc=>?_) (fun x p hx ih hc=>?_) x
 ·have hne:x≠h:=fun e=>by subst e;rw[W.contains_self]at hc;cases hc
  have hx':(nd (cut m h q) x).parent=none:=by rw[hP,if_neg hne];exact hx
  rw[W.anc_root hx,W'.anc_root hx']
 ·have hne:x≠h:=fun e=>by subst e;rw[W.contains_self]at hc;cases hc
  have hx':(nd (cut m h q) x).parent=some p:=by rw[hP,if_neg hne];exact hx
  rw[W.contains_step hx,Bool.or_eq_false_iff]at hc;rw[W.anc_step hx,W'.anc_step hx',ih hc.2]
theorem height_cut{m:Model}(W:WF m){h q:Nat}(hq:(nd m h).parent=some q)(x:Nat):contains m x q=false->height (cut m h q) x=height m x:=by
 have W':=W.cut hq;obtain⟨h1,h2⟩:=W.lt hq;refine W.down_ind (P:=fun x=>contains m x q=false->height (cut m h q) x=height m x) (fun x ih hx=>?_) x;have hne:x≠q:=fun e=>by subst e;rw[W.contains_self]at hx;cases hx
 rw[W.height_eq,W'.height_eq,nd_cut h1 h2];dsimp only;rw[if_neg hne];refine congrArg (fun l=>maxL l+1) (List.map_congr_left fun c hc=>ih c hc ?_)
 cases e:contains m c q with
 |false=>rfl
 |true=>rw[W.contains_kid hc e]at hx;cases hx
theorem WF.parent_out{m:Model}(W:WF m){h q:Nat}(hq:(nd m h).parent=some q):contains m h q=false:=by
 cases e:contains m h q with
 |false=>rfl
 |true=>
  have h3:=(W.pidx_contains q e).1.length_le;rw[W.pidx_step hq,List.length_append]at h3;simp at h3;omega
theorem out_facts{m:Model}(W:WF m){h p:Nat}(hl:h<m.length)(hpl:p<m.length)(hc:contains m h p=false) :
  WF (out m h)/\(out m h).length=m.length/\(nd (out m h) h).parent=none/\(∀x,contains (out m h) h x=contains m h x)/\depth (out m h) p=depth m p/\height (out m h) h=height m h ∧
  (∀j,(nd (out m h) j).kind=(nd m j).kind/\(nd (out m h) j).gone=(nd m j).gone):=by
 unfold out
 cases hq:(nd m h).parent with
 |none=>exact⟨W,rfl,hq,fun _=>rfl,rfl,rfl,fun _=>⟨rfl,rfl⟩⟩
 |some q=>
  obtain⟨h1,h2⟩:=W.lt hq;refine⟨W.cut hq,cut_len _ _ _,by rw[nd_cut h1 h2];simp,cut_contains W hq,?_,height_cut W hq h (W.parent_out hq),fun j=>by rw[nd_cut h1 h2];exact⟨rfl,rfl⟩⟩;unfold depth;rw[anc_cut W hq p hc]
theorem may_facts{m:Model}(W:WF m){p h:Nat}(hm:may m p h=true):contains m h p=false/\(nd m h).kind≠1/\(nd m p).kind<=2:=by
 unfold may at hm;simp only[Bool.and_eq_true,Bool.or_eq_true,Bool.not_eq_true',beq_iff_eq,beq_eq_false_iff_ne]at hm;obtain⟨⟨h1,h2⟩,h3⟩:=hm;refine⟨h2,h1,?_⟩
 rcases h3 with(h3|⟨h3,_⟩)|⟨⟨h3,_⟩,_⟩<;>omega
def spB(b:UInt8):Bool:=b==9 || b==10 || b==12 || b==13 || b==32
def badB(c:UInt8):Bool:=spB c || c==47 || c==62 || (decide (65<=c.toNat) && decide (c.toNat<=90))
def nameOk(s:Bytes):Bool:=!s.isEmpty && s.all (fun c=>!badB c) && decide (U.rep s=s)
def elemOk(s:Bytes):Bool:=(match s with | []=>false|c :: _=>decide (97<=c.toNat) && decide (c.toNat<=122)) && nameOk s
def headOk(s:Bytes):Bool:=(s.drop 1).all (fun c=>!(c==61)) && nameOk s
def attrsOk:List (Bytes×Bytes)->List Bytes->Bool
 |[],_=>true
 |a :: l,seen=>headOk a.1 && !seen.contains a.1 && attrsOk l (seen++[a.1])
def make(m:Model)(kind:Nat)(name data:Bytes)(l:List (Bytes×Bytes)):Option Model:=
 if kind=2 then(if elemOk name && attrsOk l []then some (m++[⟨2,name,l.map (fun a=>(a.1,U.rep a.2)),[],none,[],false⟩])else none)
 else some (m++[⟨kind,[],[],U.rep data,none,[],false⟩])
def attrAt(m:Model)(h:Nat)(name:Bytes):Option Nat:=(nd m h).attrs.findIdx? (fun a=>a.1==name)
def attrRec(h:Nat)(name old:Bytes)(had:Bool):Rec:=⟨3,h,none,none,none,0,name,old,had,0,0⟩
def setAttr(lim:Option Nat)(m:Model)(h:Nat)(name value:Bytes):List Rec×Nat×Model:=
 if (nd m h).kind≠2 then([],10,m)
 else if headOk name=false then([],1,m)
 else match attrAt m h name with
  |some i=>([attrRec h name (((nd m h).attrs[i]?.map (·.2)).getD []) true],0,upd m h fun x=>{ x with attrs:=x.attrs.set i (name,U.rep value) })
  |none=>if ∃k,lim=some k/\k<=(nd m h).attrs.length then([],5,m)
   else([attrRec h name [] false],0,upd m h fun x=>{ x with attrs:=x.attrs++[(name,U.rep value)] })
def dropAttr(m:Model)(h:Nat)(name:Bytes):List Rec×Nat×Model:=
 if (nd m h).kind≠2 then([],10,m)
 else match attrAt m h name with
  |none=>([],0,m)
  |some i=>([attrRec h name (((nd m h).attrs[i]?.map (·.2)).getD []) true],0,upd m h fun x=>{ x with attrs:=x.attrs.eraseIdx i })
def replace(m:Model)(h:Nat)(i c:Int)(s:Bytes):List Rec×Nat×Model:=
 if (nd m h).kind<3 then([],10,m)
 else if i<0\/((U.pts (nd m h).data).length:Int)<i\/c<0 then([],2,m)
 else
  let z:=min c.toNat ((U.pts (nd m h).data).length-i.toNat)
  ([⟨4,h,none,none,none,i.toNat,[],(nd m h).data,false,z,(U.pts s).length⟩],0,setData m h (U.splice (nd m h).data s i.toNat z))
def remove(m:Model)(h:Nat):List Rec×Nat×Model:=
 if (nd m h).kind=1 then([],10,m)
 else match (nd m h).parent with|none=>([],0,m)|some q=>([cutRec m h q],0,cut m h q)
def dropN(m:Model)(h:Nat):Nat×Model:=if (nd m h).parent≠none\/(nd m h).kind=1 then(7,m) else(0,drop m h)
def copyOf(m:Model)(h:Nat)(deep:Bool):Nat×Model:=if (nd m h).kind=1 then(10,m) else(0,copyT 128 m h deep)
end G
end
section
namespace U
theorem decodeL_eq(l:List UInt8)(h:l≠[]):Lib.decodeL l=(code (chunk l),adv l):=by
 have hl:0<l.length:=List.length_pos_iff.2 h;have:=decode_eq ⟨l.toArray⟩ 0 (by show 0<l.toArray.size;simpa using hl);simpa[Lib.decodeL]using this
theorem rep_ge:∀(n:Nat) (l:List UInt8),l.length<=n->l.length<=(rep l).length
 |0,l,h=>by omega
 |n+1,l,h=>by
  by_cases hl:l=[]
  ·subst hl;simp
  ·have ha:=adv_pos l
   have hle:=adv_le l hl;have ih:=rep_ge n (l.drop (adv l)) (by simp;omega);rw[rep_cons l hl,List.length_append];rw[List.length_drop]at ih;have hc:adv l<=(chunk l).length:=by
    have:=sz_le l;unfold chunk adv
    split
    ·simp
    ·simp;omega
   omega
theorem code_bad(l:List UInt8)(h:l≠[]):(code (chunk l)=65533/\adv l=1)↔sz l=0:=by
 constructor
 ·rintro⟨h1,h2⟩
  by_cases h0:sz l=0
  ·exact h0
  ·exfalso
   unfold adv at h2;rw[if_neg h0]at h2;rw[code_chunk,if_neg h0,code_take l h0,h2]at h1;simp only[if_true]at h1;have hb:=(l.getD 0 0).toNat_lt;omega
 ·intro h0
  refine⟨?_,?_⟩
  ·rw[code_chunk,if_pos h0]
  ·unfold adv;rw[if_pos h0]
theorem valid_iff:∀(n:Nat) (l:List UInt8),l.length<=n->(Lib.validD l=true↔rep l=l)
 |0,l,h=>by
  have:l=[]:=List.eq_nil_of_length_eq_zero (by omega);subst this;simp[Lib.validD_nil,rep_nil]
 |n+1,l,h=>by
  by_cases hl:l=[]
  ·subst hl;simp[Lib.validD_nil,rep_nil]
  ·have ha:=adv_pos l
   have hle:=adv_le l hl;rw[Lib.validD_step l hl,decodeL_eq l hl]
   by_cases h0:sz l=0
   ·rw[if_pos ((code_bad l hl).2 h0)]
    constructor
    ·intro e;simp at e
    ·intro e
     exfalso;have hg:=rep_ge l.length (l.drop 1) (by simp)
     rw[rep_cons l hl]at e;unfold chunk adv at e;rw[if_pos h0,if_pos h0]at e;have e':=congrArg List.length e;rw[List.length_append]at e';rw[List.length_drop]at hg;simp at e';simp at hg;omega
   ·rw[if_neg (fun h=>h0 ((code_bad l hl).1 h))]
    have ih:=valid_iff n (l.drop (adv l)) (by simp;omega);rw[ih,rep_cons l hl];have hch:chunk l=l.take (adv l):=by unfold chunk adv;rw[if_neg h0,if_neg h0]
    rw[hch];constructor
    ·intro e;rw[e,List.take_append_drop]
    ·intro e
     have e2:l.take (adv l)++rep (l.drop (adv l))=l.take (adv l)++l.drop (adv l):=by rw[List.take_append_drop];exact e
     exact List.append_cancel_left e2
theorem valid_eq(l:List UInt8):Lib.validD l=decide (rep l=l):=by
 rw[Bool.eq_iff_iff,valid_iff l.length l (Nat.le_refl _)];simp
theorem toUInt8_eq(a:UInt8)(n:Int)(h:n=a.toNat):n.toNat.toUInt8=a:=by
 subst h;simp
theorem encode_chunk(l:List UInt8):Lib.encodeRune (code (chunk l):Nat)=chunk l:=by
 rw[code_chunk];have hc:=sz_cases l
 rcases hc with⟨e,hc⟩|⟨e,hc⟩|⟨e,hc⟩|⟨e,hc⟩|⟨e,_⟩
 ·have ht:chunk l=[l.getD 0 0]:=by
   unfold chunk;rw[e,if_neg (by omega),head_take l 1 (by have:=sz_le l;omega)];simp[List.range,List.range.loop]
  unfold one at hc;rw[if_neg (by omega),code_take l (by omega),e,ht];simp only[if_true];unfold Lib.encodeRune;rw[Lib.encodeRuneZ_one (by omega) (by omega)];simp
 ·have ht:chunk l=[l.getD 0 0,l.getD 1 0]:=by
   unfold chunk;rw[e,if_neg (by omega),head_take l 2 (by have:=sz_le l;omega)];simp[List.range,List.range.loop]
  unfold two at hc;rw[if_neg (by omega),code_take l (by omega),e,ht];simp only[if_true,if_neg (by omega:¬(2:Nat)=1)];unfold Lib.encodeRune;rw[Lib.encodeRuneZ_two (by omega) (by omega)];simp only[List.map_cons,List.map_nil];rw[toUInt8_eq (l.getD 0 0) _ (by omega),toUInt8_eq (l.getD 1 0) _ (by omega)]
 ·have ht:chunk l=[l.getD 0 0,l.getD 1 0,l.getD 2 0]:=by
   unfold chunk;rw[e,if_neg (by omega),head_take l 3 (by have:=sz_le l;omega)];simp[List.range,List.range.loop]
  unfold three sec at hc;rw[if_neg (by omega),code_take l (by omega),e,ht];simp only[if_true,if_neg (by omega:¬(3:Nat)=1),if_neg (by omega:¬(3:Nat)=2)];unfold Lib.encodeRune;rw[Lib.encodeRuneZ_three (by omega)];simp only[List.map_cons,List.map_nil];rw[toUInt8_eq (l.getD 0 0) _ (by omega),toUInt8_eq (l.getD 1 0) _ (by omega),toUInt8_eq (l.getD 2 0) _ (by omega)]
 ·have ht:chunk l=[l.getD 0 0,l.getD 1 0,l.getD 2 0,l.getD 3 0]:=by
   unfold chunk;rw[e,if_neg (by omega),head_take l 4 (by have:=sz_le l;omega)];simp[List.range,List.range.loop]
  unfold four sec at hc;rw[if_neg (by omega),code_take l (by omega),e,ht];simp only[if_neg (by omega:¬(4:Nat)=1),if_neg (by omega:¬(4:Nat)=2),if_neg (by omega:¬(4:Nat)=3)];unfold Lib.encodeRune;rw[Lib.encodeRuneZ_four (by omega) (by omega)];simp only[List.map_cons,List.map_nil];rw[toUInt8_eq (l.getD 0 0) _ (by omega),toUInt8_eq (l.getD 1 0) _ (by omega),toUInt8_eq (l.getD 2 0) _ (by omega),toUInt8_eq (l.getD 3 0) _ (by omega)]
 ·rw[if_pos e]
  unfold chunk;rw[if_pos e]
  decide
end U
namespace T
theorem code_lt(c:List UInt8):U.code c<2097152:=by
 unfold U.code
 split
 ·rename_i a;have:=a.toNat_lt;omega
 ·omega
 ·omega
 ·omega
 ·omega
end T
end
section
open Go.RowKit Go.Sort
namespace A
open H
structure Slot where
 used:Bool
 kind:Nat
 name:List UInt8
 attrs:Value
 al:List (List UInt8×List UInt8)
 data:List UInt8
 parent:Int
 first:Int
 last:Int
 prev:Int
 next:Int
def scells(r:Slot):List Value:=[.bool r.used,.int .i64 (r.kind:Nat),.string ⟨r.name.toArray⟩,r.attrs,.string ⟨r.data.toArray⟩,.int .i64 r.parent,.int .i64 r.first,.int .i64 r.last,.int .i64 r.prev,.int .i64 r.next]
theorem scells_len(r:Slot):(scells r).length=10:=rfl
structure TMem where
 tb:Nat
 g:Nat
 cap:Nat
 bs:Int
 st:Int
 slots:List Slot
 freeV:Value
 frees:List Nat
 live:Int
 root:Int
 B:Nat
def tcells(T:TMem):Array Value:=#[.int .i64 T.bs,.int .i64 T.st,.slice (some ⟨T.g,0,none⟩) T.slots.length T.cap,T.freeV,.int .i64 T.live,.int .i64 T.root]
def natVs(l:List Nat):List Value:=l.map fun n=>.int .i64 (n:Nat)
def OwnN(base:Nat)(w:World)(v:Value)(l:List Nat):Prop:=w.ownsRow base 3 1 v l.length (natVs l)
def acells(p:List UInt8×List UInt8):List Value:=[.string ⟨p.1.toArray⟩,.string ⟨p.2.toArray⟩]
theorem acells_len(p:List UInt8×List UInt8):(acells p).length=2:=rfl
def AttrsAt(w:World)(v:Value)(l:List (List UInt8×List UInt8)):Prop:=RecRow acells 0 142 2 w v l
theorem own_below{w w':World}{base:Nat}{e:TypeId}{size:Nat}{v:Value}{n:Nat}{xs:List Value}(h:w.ownsRow base e size v n xs)(b:Below w.heap.size w w'):w'.ownsRow base e size v n xs:=by
 refine⟨h.1,?_⟩
 rcases h.2 with hn|⟨g,cap,cur,hv,hb,hg,rest⟩
 ·exact Or.inl hn
 ·exact Or.inr ⟨g,cap,cur,hv,hb,(b.block g (lt_of_block hg)).trans hg,rest⟩
structure TreeMem(w:World)(T:TMem):Prop where
 blk:Blk T.tb (tcells T) 92 w
 row:RecRow scells T.B 210 10 w (.slice (some ⟨T.g,0,none⟩) T.slots.length T.cap) T.slots
 few:T.slots.length<=1000000
 bb:T.B<=T.tb
 free:OwnN T.B w T.freeV T.frees
 attrs:∀r,r∈T.slots->AttrsAt w r.attrs r.al
theorem TreeMem.below{w w':World}{T:TMem}(h:TreeMem w T)(b:Below w.heap.size w w'):TreeMem w' T:=
 ⟨h.blk.below b,own_below h.row b,h.few,h.bb,own_below h.free b,fun r hr=>own_below (h.attrs r hr) b⟩
def TMem.at_(T:TMem)(h:Int):Option Nat:=match slotOf T.bs T.st h with
 |some i=>if hi:i<T.slots.length then(if T.slots[i].used=true then some i else none)else none
 |none=>none
def TMem.ptr(T:TMem)(o:Nat)(h:Int):Option Addr:=(T.at_ h).map fun i=>⟨T.g,i*10+o,none⟩
theorem ret_ptr{a b:Option Addr}(h:a=b):Ending.returned (.pointer a)=Ending.returned (.pointer b):=by rw[h]
theorem find(T:TMem)(h:Int)(w:World)(hT:TreeMem w T)(hh:-9223372036854775808<=h)(hh2:h<=9223372036854775807) :
  Calls Tryz.prog 142 #[.pointer (some ⟨T.tb,0,none⟩),.int .i64 h] w fun e w'=>e=.returned (.pointer (T.ptr 0 h))/\Below w.heap.size w w':=by
 have HT:=hi_ hT;have hlt:=hT.blk.lt;have QI:=hi_ (index T.bs T.st h w hh hh2);obtain⟨hc,hf⟩:=cells_of hT.blk;have c0:w.cell? ⟨T.tb,0,none⟩=some (.int .i64 T.bs):=hc 0;have c1:w.cell? ⟨T.tb,1,none⟩=some (.int .i64 T.st):=hc 1;have c2:w.cell? ⟨T.tb,2,none⟩=some (.slice (some ⟨T.g,0,none⟩) T.slots.length T.cap):=hc 2;have hfew:=hT.few;generalize hPT:T.ptr 0 h=PT;have HPT:=hi_ hPT;clear hT hc hf hPT
 go_enter Tryz.func142,Tryz.ntmps142
 go_wp2_with fail
 refine QI.out.mono ?_;rintro e w2 ⟨rfl,hb⟩;have HB:=hi_ hb;have HT2:=hi_ (HT.out.below hb);have hlt2:=HT2.out.blk.lt;obtain⟨hc,hf⟩:=cells_of HT2.out.blk;have d2:w2.cell? ⟨T.tb,2,none⟩=some (.slice (some ⟨T.g,0,none⟩) T.slots.length T.cap):=hc 2;clear hc hf c0 c1 c2 hb QI
 cases hs:slotOf T.bs T.st h with
 |none=>
  have hz:slotI T.bs T.st h=-1:=by unfold slotI;rw[hs]
  have hp:T.ptr 0 h=none:=by unfold TMem.ptr TMem.at_;rw[hs];rfl
  rw[hz];go_wp2_with fail
  go_ret
  exact⟨ret_ptr (hp.symm.trans HPT.out),HB.out⟩
 |some i=>
  have hz:slotI T.bs T.st h=(i:Int):=by unfold slotI;rw[hs]
  rw[hz]
  by_cases hi:i<T.slots.length
  ·have hiI:(i:Int)<(T.slots.length:Int):=by omega
   obtain⟨k0,_⟩:=RecRow.cell scells_len HT2.out.row hi (k:=0) (by omega);have k0':w2.cell? ⟨T.g,i*10,none⟩=some (.bool T.slots[i].used):=k0;have hlg:=(ownsRow_open HT2.out.row).1;clear k0
   cases hu:T.slots[i].used with
   |true=>
    have hp:T.ptr 0 h=some ⟨T.g,i*10,none⟩:=by unfold TMem.ptr TMem.at_;rw[hs];dsimp only;rw[dif_pos hi,if_pos hu];rfl
    rw[hu]at k0';go_wp2_with fail
    go_ret
    exact⟨ret_ptr (hp.symm.trans HPT.out),HB.out⟩
   |false=>
    have hp:T.ptr 0 h=none:=by unfold TMem.ptr TMem.at_;rw[hs];dsimp only;rw[dif_pos hi,if_neg (by rw[hu];exact Bool.false_ne_true)];rfl
    rw[hu]at k0';go_wp2_with fail
    go_ret
    exact⟨ret_ptr (hp.symm.trans HPT.out),HB.out⟩
  ·have hiI:¬(i:Int)<(T.slots.length:Int):=by omega
   have hp:T.ptr 0 h=none:=by unfold TMem.ptr TMem.at_;rw[hs];dsimp only;rw[dif_neg hi];rfl
   go_wp2_with fail
   go_ret
   exact⟨ret_ptr (hp.symm.trans HPT.out),HB.out⟩
end A
end
section
open Go.RowKit
namespace G
theorem WF.copy_step(n:Nat){m m':Model}(W:WF m){h c:Nat}(C:Copied m m' h)(hck:c∈(nd m h).kids)(hl:G.low m n c) :
  Copied m' (G.copyT n m' c true) c/\WF (G.put (G.copyT n m' c true) m.length m'.length (nd (G.copyT n m' c true) m.length).kids.length)/\Copied m (G.put (G.copyT n m' c true) m.length m'.length (nd (G.copyT n m' c true) m.length).kids.length) h:=by
 obtain⟨hcm,hcp⟩:=W.kid h c hck;have hc0:0<c:=by
  rcases Nat.eq_zero_or_pos c with e|e
  ·subst e;rw[W.doc.2.2.1]at hcp;cases hcp
  ·exact e
 have hmore:=C.more;have hcl:G.low m' n c:=low_same W.low_all C.old hcm hl;have C2:=WF.copyT n C.wf true (by omega:c<m'.length) hc0 hcl;generalize hm2:G.copyT n m' c true=m2 at C2 ⊢;have hmore2:=C2.more;have hkk:nd m2 m.length=nd m' m.length:=C2.old _ hmore;have hkp:(nd m2 m.length).parent=none:=by rw[hkk];exact C.root.1
 have hcon:contains m2 m'.length m.length=false:=by
  rw[C2.wf.contains_root hkp,beq_eq_false_iff_ne];omega
 have hch:height m' c=height m c:=old_height W C.wf W.low_all C.old c hcm;have hhk:=W.height_kid hck;have hhd:=W.height_depth h;have hdp:=W.depth_pos h;have hrh:=C2.high;have hkind:(nd m h).kind<=2:=by
  rcases Nat.lt_or_ge 2 (nd m h).kind with e|e
  ·rw[W.leaf h (by omega)]at hck;cases hck
  ·exact e
 have W3:WF (G.put m2 m.length m'.length (nd m2 m.length).kids.length):=by
  refine C2.wf.put C2.root.1 (by omega) hmore2 (by omega) hcon ?_ (by rw[hkk,C.root.2.2];exact hkind) (by rw[hkk,C2.root.2.1,C.root.2.1]);rw[C2.wf.depth_root hkp];omega
 have hnd:∀i,nd (G.put m2 m.length m'.length (nd m2 m.length).kids.length) i={ nd m2 i with kids:=if i=m.length then(nd m2 i).kids.take (nd m2 m.length).kids.length++m'.length :: (nd m2 i).kids.drop (nd m2 m.length).kids.length else(nd m2 i).kids,parent:=if i=m'.length then some m.length else(nd m2 i).parent }:=fun i=>nd_put hmore2 (by omega) i;have hkids:(nd (G.put m2 m.length m'.length (nd m2 m.length).kids.length) m.length).kids=(nd m' m.length).kids++[m'.length]:=by
  rw[hnd];dsimp only;rw[if_pos rfl,List.take_length,List.drop_length,hkk]
 have hnok:∀j,j≠m.length->contains m2 j m.length=false:=fun j hj=>by rw[C2.wf.contains_root hkp,beq_eq_false_iff_ne];exact hj
 have hkne:∀j∈(nd m' m.length).kids,j≠m.length/\j<m'.length:=fun j hj=>by
  obtain⟨a,b⟩:=C.wf.kid _ j hj;exact⟨fun e=>(by subst e;rw[C.root.1]at b;cases b),a⟩
 refine⟨C2,W3,W3,by rw[put_len];omega,fun i hi=>?_,?_,?_,?_⟩
 ·rw[hnd,if_neg (by omega),if_neg (by omega)]
  exact(C2.old i (by omega)).trans (C.old i hi)
 ·rw[hnd]
  dsimp only;rw[if_neg (by omega),hkk];exact C.root
 ·rw[W3.height_eq,hkids]
  have:maxL (((nd m' m.length).kids++[m'.length]).map (height (G.put m2 m.length m'.length (nd m2 m.length).kids.length)))<=height m h-1:=by
   refine maxL_le fun x hx=>?_;obtain⟨j,hj,rfl⟩:=List.mem_map.1 hx
   rcases List.mem_append.1 hj with hj|hj
   ·obtain⟨e1,e2⟩:=hkne j hj
    rw[height_put C2.wf W3 (by omega) hmore2 j (hnok j e1),old_height C.wf C2.wf C.wf.low_all C2.old j e2];have:=C.wf.height_kid hj;have:=C.high;omega
   ·have e:=List.mem_singleton.1 hj
    subst e;rw[height_put C2.wf W3 (by omega) hmore2 _ hcon];omega
  omega
 ·rw[W3.walk_eq,hkids,List.flatMap_append,put_len]
  have e1:(nd m' m.length).kids.flatMap (G.walk (G.put m2 m.length m'.length (nd m2 m.length).kids.length))=(nd m' m.length).kids.flatMap (G.walk m'):=flat_congr fun j hj=>by
   obtain⟨a,b⟩:=hkne j hj;rw[walk_put C2.wf W3 (by omega) hmore2 j (hnok j a),old_walk C.wf C2.wf C.wf.low_all C2.old j b]
  have e2:[m'.length].flatMap (G.walk (G.put m2 m.length m'.length (nd m2 m.length).kids.length))=List.range' m'.length (m2.length-m'.length):=by
   rw[List.flatMap_cons,List.flatMap_nil,List.append_nil,walk_put C2.wf W3 (by omega) hmore2 _ hcon];exact C2.walk
  rw[e1,e2,<-List.cons_append,<-C.wf.walk_eq,C.walk];exact range_join (by omega) (by omega)
end G
end
section
namespace G
structure Op where
 kind:Nat
 a:Nat
 b:Nat
 c:Nat
 s:Bytes
 t:Bytes
 n:Int
 k:Int
def Op.at_(o:Op)(m:Model):Nat:=o.a % m.length
def Op.bt(o:Op)(m:Model):Nat:=o.b % m.length
def Op.ct(o:Op)(m:Model):Option Nat:=if o.c % (m.length+1)=0 then none else some (o.c % (m.length+1)-1)
def hasO(m:Model):Option Nat->Bool
 |none=>true
 |some x=>has m x
def Op.al(o:Op):List (Bytes×Bytes):=if 0<o.n then[(o.t,o.s),([107],o.t)] else[]
def step(lim:Option Nat)(m:Model)(o:Op):List Rec×Nat×Model:=
 if o.kind % 10<3 then(match make m (2+o.kind % 10) o.s o.t o.al with|none=>([],1,m)|some m'=>([],0,m'))
 else if o.kind % 10=3 then(if has m (o.at_ m) && (has m (o.bt m) && hasO m (o.ct m))then insert m (o.bt m) (o.at_ m) (o.ct m) else([],6,m))
 else if has m (o.at_ m)=false then([],6,m)
 else if o.kind % 10=4 then remove m (o.at_ m)
 else if o.kind % 10=5 then setAttr lim m (o.at_ m) o.s o.t
 else if o.kind % 10=6 then dropAttr m (o.at_ m) o.s
 else if o.kind % 10=7 then replace m (o.at_ m) o.n o.k o.t
 else if o.kind % 10=8 then([],copyOf m (o.at_ m) (decide (0<o.n)))
 else([],dropN m (o.at_ m))
def bod(x:Node):List (Bytes×Bytes)×Bytes:=(x.attrs,x.data)
theorem upd_out{m:Model}{i:Nat}{f:Node->Node}(h:m.length<=i):upd m i f=m:=by
 unfold upd;refine List.ext_getElem? fun j=>?_;rw[List.getElem?_modify]
 by_cases e:i=j
 ·subst e;rw[List.getElem?_eq_none h];simp
 ·simp[e]
theorem upd_prop{m:Model}{i:Nat}{f:Node->Node}{P:Node->Prop}(hP:∀j,P (nd m j))(hf:P (f (nd m i)))(j:Nat):P (nd (upd m i f) j):=by
 rcases Nat.lt_or_ge i m.length with h|h
 ·rw[nd_upd h]
  by_cases e:j=i
  ·rw[if_pos e,e];exact hf
  ·rw[if_neg e];exact hP j
 ·rw[upd_out h];exact hP j
def AllN(P:List (Bytes×Bytes)×Bytes->Prop)(m:Model):Prop:=∀j,P (bod (nd m j))
section
variable {P:List (Bytes×Bytes)×Bytes->Prop}
theorem AllN.updN{m:Model}(h:AllN P m)(i:Nat){f:Node->Node}(hf:P (bod (f (nd m i)))):AllN P (upd m i f):=fun j=>upd_prop (P:=fun x=>P (bod x)) h hf j
theorem AllN.app{m:Model}(h:AllN P m){x:Node}(hx:P (bod x)):AllN P (m++[x]):=fun j=>by
 rw[nd_app_cases]
 split
 ·exact hx
 ·exact h j
theorem AllN.cut{m:Model}(h:AllN P m)(a p:Nat):AllN P (cut m a p):=by
 unfold G.cut;have h1:AllN P (upd m p fun x=>{ x with kids:=x.kids.erase a }):=h.updN p (h p);exact h1.updN a (h1 a)
theorem AllN.put{m:Model}(h:AllN P m)(p a i:Nat):AllN P (put m p a i):=by
 unfold G.put;have h1:AllN P (upd m p fun x=>{ x with kids:=x.kids.take i++a :: x.kids.drop i }):=h.updN p (h p);exact h1.updN a (h1 a)
theorem AllN.copyT:∀(n:Nat) {m:Model} (h:AllN P m) (a:Nat) (deep:Bool),AllN P (copyT n m a deep)
 |0,m,h,a,deep=>h
 |n+1,m,h,a,deep=>by
  have h1:AllN P (m++[bare (nd m a)]):=h.app (h a);rw[G.copyT]
  cases deep with
  |false=>exact h1
  |true=>
   simp only[if_true];have hf:∀(l:List Nat) (m':Model),AllN P m'->AllN P (l.foldl (fun m' c=>G.put (G.copyT n m' c true) m.length m'.length (nd (G.copyT n m' c true) m.length).kids.length) m'):=by
    intro l
    induction l with
    |nil=>exact fun m' h=>h
    |cons c t ih=>exact fun m' h'=>ih _ ((AllN.copyT n h' c true).put _ _ _)
   exact hf _ _ h1
theorem AllN.drop{m:Model}(h:AllN P m)(a:Nat):AllN P (drop m a):=fun j=>by
 rcases Nat.lt_or_ge j m.length with hj|hj
 ·rw[nd_drop j hj];exact h j
 ·rw[nd_out (by unfold G.drop;simpa using hj)]
  have:=h j
  rwa [nd_out hj]at this
theorem AllN.out{m:Model}(h:AllN P m)(a:Nat):AllN P (out m a):=by
 unfold G.out
 split
 ·exact h
 ·exact h.cut _ _
end
def OkBod(k:Nat)(x:List (Bytes×Bytes)×Bytes):Prop:=x.1.length<=2+k/\U.rep x.2=x.2/\x.2.length<=120*(k+1)
theorem OkBod.more{k:Nat}{x:List (Bytes×Bytes)×Bytes}(h:OkBod k x):OkBod (k+1) x:=⟨by have:=h.1;omega,h.2.1,by have:=h.2.2;omega⟩
theorem flat_parts(L:List Bytes)(i c:Nat):(L.take i).flatten.length+(L.drop (i+c)).flatten.length<=L.flatten.length:=by
 have h1:L=L.take i++L.drop i:=(List.take_append_drop i L).symm;have h2:L.drop (i+c)=(L.drop i).drop c:=by rw[List.drop_drop]
 have h3:(L.drop i).flatten=((L.drop i).take c).flatten++((L.drop i).drop c).flatten:=by rw[<-List.flatten_append,List.take_append_drop]
 have h4:L.flatten=(L.take i).flatten++(L.drop i).flatten:=by rw[<-List.flatten_append,List.take_append_drop]
 rw[h4,h3,h2];simp only[List.length_append];omega
theorem splice_short{d s:Bytes}{i c n:Nat}(hd:U.rep d=d)(hs:(U.rep s).length<=n):(U.splice d s i c).length<=d.length+n:=by
 have h1:=flat_parts (U.pts d) i c;have h2:(U.pts d).flatten=d:=hd;rw[h2]at h1;unfold U.splice;simp only[List.length_append];omega
theorem ok_step{k:Nat}{m:Model}{o:Op}{lim:Option Nat}(h:AllN (OkBod k) m)(ht:(U.rep o.t).length<=120):AllN (OkBod (k+1)) (step lim m o).2.2:=by
 have h':AllN (OkBod (k+1)) m:=fun j=>(h j).more;unfold step
 split
 ·cases hmk:make m (2+o.kind % 10) o.s o.t o.al with
  |none=>exact h'
  |some m'=>
   dsimp only;unfold make at hmk
   split at hmk
   ·split at hmk
    ·injection hmk with hmk
     subst hmk;refine h'.app ⟨?_,rfl,Nat.zero_le _⟩;show(o.al.map _).length<=_;rw[List.length_map];unfold Op.al
     split<;>simp<;>omega
    ·cases hmk
   ·injection hmk with hmk
    subst hmk;exact h'.app ⟨Nat.zero_le _,U.rep_rep _,by show(U.rep o.t).length<=_;omega⟩
 ·split
  ·split
   ·unfold insert
    split
    ·exact h'
    ·split
     ·exact h'
     ·exact(h'.out _).put _ _ _
   ·exact h'
  ·split
   ·exact h'
   ·split
    ·unfold remove
     split
     ·exact h'
     ·split
      ·exact h'
      ·exact h'.cut _ _
    ·split
     ·unfold setAttr
      split
      ·exact h'
      ·split
       ·exact h'
       ·split
        ·rename_i i hi
         refine h'.updN _ ⟨?_,(h _).2.1,(h' _).2.2⟩;show(List.set _ _ _).length<=_;rw[List.length_set];exact(h' _).1
        ·split
         ·exact h'
         ·refine h'.updN _ ⟨?_,(h _).2.1,(h' _).2.2⟩
          show(_++[_]).length<=_;rw[List.length_append];have:=(h (o.at_ m)).1;show(nd m (o.at_ m)).attrs.length+1<=_;have h9:(nd m (o.at_ m)).attrs.length<=2+k:=this;omega
     ·split
      ·unfold dropAttr
       split
       ·exact h'
       ·split
        ·exact h'
        ·refine h'.updN _ ⟨?_,(h _).2.1,(h' _).2.2⟩
         show(List.eraseIdx _ _).length<=_;have h8:=List.length_eraseIdx_le (nd m (o.at_ m)).attrs ‹Nat›;have h9:(nd m (o.at_ m)).attrs.length<=2+(k+1):=(h' (o.at_ m)).1;omega
      ·split
       ·unfold replace
        split
        ·exact h'
        ·split
         ·exact h'
         ·dsimp only
          unfold setData;refine h'.updN _ ⟨(h' _).1,U.rep_splice _ _ _ _,?_⟩;have h8:=splice_short (s:=o.t) (i:=o.n.toNat) (c:=min o.k.toNat ((U.pts (nd m (o.at_ m)).data).length-o.n.toNat)) (h (o.at_ m)).2.1 ht;have h9:(nd m (o.at_ m)).data.length<=120*(k+1):=(h (o.at_ m)).2.2;show(U.splice _ _ _ _).length<=_;have h10:(bod (nd m (o.at_ m))).2=(nd m (o.at_ m)).data:=rfl;rw[h10]at h8;omega
       ·split
        ·unfold copyOf
         split
         ·exact h'
         ·exact h'.copyT _ _ _
        ·unfold dropN
         split
         ·exact h'
         ·exact h'.drop _
theorem setAttr_lim{m:Model}{h:Nat}{nm vl:Bytes}{k:Nat}(hl:(nd m h).attrs.length<k):setAttr (some k) m h nm vl=setAttr none m h nm vl:=by
 unfold setAttr
 split
 ·rfl
 ·split
  ·rfl
  ·split
   ·rfl
   ·rw[if_neg,if_neg]
    ·rintro⟨k,hk,_⟩;cases hk
    ·rintro⟨j,hj,h2⟩
     injection hj with hj
     omega
theorem step_lim{m:Model}{o:Op}{k:Nat}(hl:∀i,(nd m i).attrs.length<k):step (some k) m o=step none m o:=by
 unfold step;rw[setAttr_lim (hl _)]
end G
end
section
open Go.RowKit
namespace T
def Tabs(w:World):Prop:=Lib.Utf8Tabs 0 1 w/\0 + 1 + 1<=w.heap.size
theorem Tabs.below{w w':World}(h:Tabs w)(b:Below w.heap.size w w'):Tabs w':=by
 have hz:=h.2;refine⟨⟨fun c hc=>?_,fun i hi=>⟨?_,?_⟩⟩,Nat.le_trans hz b.size⟩
 ·rw[b.cell (p:=⟨0,c,none⟩) (by show(0:Nat)<_;omega)];exact h.1.1 c hc
 ·rw[b.cell (p:=⟨1,2*i,none⟩) (by show(1:Nat)<_;omega)];exact(h.1.2 i hi).1
 ·rw[b.cell (p:=⟨1,2*i+1,none⟩) (by show(1:Nat)<_;omega)];exact(h.1.2 i hi).2
theorem ValidString(s:ByteArray)(w:World)(hs:s.size<=140737488351232)(hT:Tabs w) :
  Calls Tryz.prog 144 #[.string s] w fun e w'=>e=.returned (.bool (decide (U.rep s.data.toList=s.data.toList)))/\Below w.heap.size w w':=by
 rw[<-U.valid_eq];exact Any.utf8_ValidString Tryz.lays196 s w (by omega) hT.1
theorem Valid(s:ByteArray)(w:World)(hs:s.size<=140737488351232)(hT:Tabs w) :
  Calls Tryz.prog 161 #[.string s] w fun e w'=>e=.returned (.bool (decide (U.rep s.data.toList=s.data.toList)))/\Below w.heap.size w w':=by
 have hv:=hi_ (ValidString s w hs hT);generalize decide (U.rep s.data.toList=s.data.toList)=V at *
 go_enter Tryz.func161,Tryz.ntmps161
 go_wp2_with (go_at_call 144;refine hv.out.mono ?_)
 rintro e w1 ⟨rfl,b1⟩;go_wp2_with fail
 go_ret
 exact⟨rfl,b1⟩
def TRRel(s:ByteArray)(w1:World)(wr:World):Prop:=
 ∃(pos:Nat) (acc:List UInt8),pos<=s.size/\Lib.IsBuilderF 120 5 w1.heap.size w1.heap.size (Lib.byteCells acc) wr/\wr.heap[w1.heap.size+1]?=some (.stringIter s pos)/\Below w1.heap.size w1 wr/\Hid (acc++U.rep (s.data.toList.drop pos)=U.rep s.data.toList)/\acc.length<=4*pos
theorem Repair_bad(s:ByteArray)(w:World)(hs:s.size<=1000000)(hT:Tabs w)(hv:U.rep s.data.toList≠s.data.toList) :
  Calls Tryz.prog 104 #[.string s] w fun e w'=>e=.returned (.string ⟨(U.rep s.data.toList).toArray⟩)/\Below w.heap.size w w':=by
 have hc:=ValidString s w (by omega) hT;rw[decide_eq_false hv]at hc;have HC:=hi_ hc;clear hc hv
 go_enter Tryz.func104,Tryz.ntmps104
 go_wp2_with (go_at_call 144;refine HC.out.mono ?_)
 rintro e w1 ⟨rfl,b1⟩;have zw:=b1.size;go_wp2_with fail
 go_loopw [] (fun wr=>TRRel s w1 wr) (fun wr=>s.size-wr.iterPos (w1.heap.size+1))
 case atStart=>
  refine⟨0,[],Nat.zero_le _,(Lib.IsBuilderF.of (Lib.fresh_isBuilder 120 5 w1)).alloc _,?_,((Below.refl _ w1).alloc (Nat.le_refl _) _).alloc (by simp) _,hi_ rfl,by simp⟩;have:=World.iter_heap (w1.alloc (.cells #[.pointer none,.slice none 0 0] 120)) s 0;simpa using this
 case round=>
  obtain⟨pos,acc,hps,hI,hit,hbw,HA,hal⟩:=hrel;have hsz:w1.heap.size+1<wr.heap.size:=(Array.getElem?_eq_some_iff.1 hit).1
  by_cases hp:pos<s.size
  ·have hne:s.data.toList.drop pos≠[]:=by rw[drop_cons s pos hp];exact List.cons_ne_nil _ _
   have HN:=hi_ (U.rep_cons _ hne);have HE:=hi_ (U.encode_chunk (s.data.toList.drop pos));have hal2:=U.adv_le _ hne;rw[List.length_drop,U.list_size]at hal2;have hpos:=U.adv_pos (s.data.toList.drop pos);have hcl:=code_lt (U.chunk (s.data.toList.drop pos));have hnx:∀ty,(Instr.next (.pointer (some ⟨w1.heap.size+1,0,none⟩)) true ty).run Tryz.prog wr=.ok (.tuple #[.bool true,.int .i64 pos,.int .i32 (U.code (U.chunk (s.data.toList.drop pos)):Nat)]) (wr.iterAt (w1.heap.size+1) s (pos+U.adv (s.data.toList.drop pos))):=fun ty=>by
    rw[Lib.run_next_any_at wr (w1.heap.size+1) s pos ty hit hp,U.decode_eq s pos hp]
   clear hne;have hch4:(U.chunk (s.data.toList.drop pos)).length<=4:=by rw[<-HE.out,<-Lib.runeCells_length];exact(Lib.runeCells_le _).2
   generalize hcd:U.code (U.chunk (s.data.toList.drop pos))=C at *;have HCD:=hi_ hcd;clear hcd;generalize hpp:pos+U.adv (s.data.toList.drop pos)=pos' at *;have HPP:=hi_ hpp;have hpos':pos'<=s.size:=by omega
   have hpos2:pos<pos':=by omega
   clear hpp;have hI2:=hI.iterAt hit pos';have hit2:=Lib.iterAt_heap wr (w1.heap.size+1) s pos pos' hit;have hbw2:=Lib.below_iterAt hbw (k:=w1.heap.size+1) (by omega) s pos';have hsz2:w1.heap.size<=(wr.iterAt (w1.heap.size+1) s pos').heap.size:=by rw[Lib.iterAt_size];omega
   go_wp2_with (go_at_call 145;refine(Any.Builder_WriteRune_k Tryz.lays168 Tryz.Builder_Extra_168 w1.heap.size w1.heap.size _ (C:Int) (by omega) (by omega) _ hI2 (by rw[Lib.byteCells_length];omega) hsz2).mono ?_)
   rintro e W1 ⟨rfl,h1,bb1,k1⟩;go_wp2_with fail
   go_roundw
   case rel=>
    refine⟨pos',acc++U.chunk (s.data.toList.drop pos),hpos',?_,k1.iter hit2 (by omega),hbw2.trans bb1,hi_ ?_,by simp;omega⟩
    ·rw[Lib.byteCells_append,<-HE.out,Lib.byteCells_encodeRune];exact Or.inr h1
    ·have h3:=HA.out
     rw[HN.out,List.drop_drop,HPP.out,<-List.append_assoc]at h3;exact h3
   case measure=>
    simp only[World.iterPos,k1.iter hit2 (by omega),hit];omega
  ·have hnx:∀ty,(Instr.next (.pointer (some ⟨w1.heap.size+1,0,none⟩)) true ty).run Tryz.prog wr=.ok (.tuple #[.bool false]) wr:=fun ty=>Lib.run_next_end_at wr (w1.heap.size+1) s pos ty hit hp
   have h3:=HA.out;rw[drop_end s pos hp,U.rep_nil,List.append_nil]at h3;have H3:=hi_ h3;clear h3;go_wp2_with (go_at_call 55;refine(Tryz.Builder_String_any_k w1.heap.size w1.heap.size acc _ hI (by omega)).mono ?_)
   rintro e W1 ⟨rfl,_,bb1,_⟩;go_wp2_with fail
   go_ret
   rw[H3.out];exact⟨rfl,b1.trans ((hbw.trans bb1).mono (by omega))⟩
theorem Repair(s:ByteArray)(w:World)(hs:s.size<=1000000)(hT:Tabs w) :
  Calls Tryz.prog 104 #[.string s] w fun e w'=>e=.returned (.string ⟨(U.rep s.data.toList).toArray⟩)/\Below w.heap.size w w':=by
 by_cases hv:U.rep s.data.toList=s.data.toList
 ·have hc:=ValidString s w (by omega) hT
  rw[decide_eq_true hv]at hc;have HC:=hi_ hc;clear hc;rw[hv];clear hv
  go_enter Tryz.func104,Tryz.ntmps104
  go_wp2_with (go_at_call 144;refine HC.out.mono ?_)
  rintro e w1 ⟨rfl,b1⟩;go_wp2_with fail
  go_ret
  exact⟨rfl,b1⟩
 ·exact Repair_bad s w hs hT hv
end T
end
section
open Go.RowKit
namespace U
def off(L:List (List UInt8))(k:Nat):Nat:=(L.take k).flatten.length
theorem take_off(L:List (List UInt8))(k:Nat):L.flatten.take (off L k)=(L.take k).flatten:=by
 have e:L.flatten=(L.take k).flatten++(L.drop k).flatten:=by rw[<-List.flatten_append,List.take_append_drop]
 rw[e];unfold off;rw[List.take_left]
theorem drop_off(L:List (List UInt8))(k:Nat):L.flatten.drop (off L k)=(L.drop k).flatten:=by
 have e:L.flatten=(L.take k).flatten++(L.drop k).flatten:=by rw[<-List.flatten_append,List.take_append_drop]
 rw[e];unfold off;rw[List.drop_left]
theorem off_le(L:List (List UInt8))(k:Nat):off L k<=L.flatten.length:=by
 have:=congrArg List.length (take_off L k);rw[List.length_take]at this;unfold off at *;omega
theorem off_all(L:List (List UInt8))(k:Nat)(h:L.length<=k):off L k=L.flatten.length:=by
 unfold off;rw[List.take_of_length_le h]
theorem off_mono(L:List (List UInt8)){j k:Nat}(h:j<=k):off L j<=off L k:=by
 unfold off;have e:L.take k=L.take j++(L.take k).drop j:=by
  have:=(List.take_append_drop j (L.take k)).symm;rw[List.take_take,Nat.min_eq_left h]at this;exact this
 rw[e,List.flatten_append,List.length_append];omega
theorem off_succ(L:List (List UInt8))(k:Nat)(h:k<L.length):off L (k+1)=off L k+L[k].length:=by
 unfold off;rw[List.take_succ_eq_append_getElem h,List.flatten_append];simp
def sl(L:List (List UInt8))(f t:Nat):List UInt8:=((L.take t).drop f).flatten
theorem sl_off(L:List (List UInt8))(f t:Nat)(h:f<=t):(L.flatten.drop (off L f)).take (off L t-off L f)=sl L f t:=by
 have h1:=off_mono L h;rw[<-List.drop_take,take_off];unfold sl;have e:off L f=off (L.take t) f:=by unfold off;rw[List.take_take,Nat.min_eq_left h]
 rw[e,drop_off]
theorem sl_empty(L:List (List UInt8))(f t:Nat)(h:t<=f):sl L f t=[]:=by
 unfold sl;rw[List.drop_of_length_le (by rw[List.length_take];omega)];rfl
theorem at_off(l:List UInt8)(k:Nat)(h:k<(pts l).length):(rep l).drop (off (pts l) k)=((pts l).drop k).flatten/\adv ((rep l).drop (off (pts l) k))=(pts l)[k].length:=by
 have h1:=drop_off (pts l) k;refine⟨h1,?_⟩;have h2:(rep l).drop (off (pts l) k)=((pts l).drop k).flatten:=h1;rw[h2,List.drop_eq_getElem_cons h,List.flatten_cons]
 -- each code point is one that stands for a list
 have hc:∃x,x≠[]/\(pts l)[k]=chunk x:=by
  have:∀(n:Nat) (l:List UInt8) (c:List UInt8),c∈chunks n l->∃x,x≠[]/\c=chunk x:=by
   intro n
   induction n with
   |zero=>intro l c hc;simp[chunks]at hc
   |succ n ih=>
    intro l c hc;unfold chunks at hc
    split at hc
    ·simp at hc
    ·rename_i hl
     rcases List.mem_cons.1 hc with rfl|hc
     ·exact⟨l,hl,rfl⟩
     ·exact ih _ _ hc
  exact this l.length l _ (List.getElem_mem h)
 obtain⟨x,hx,e⟩:=hc;rw[e];exact adv_chunk x _ hx
end U
namespace T
theorem ret_str{a b:ByteArray}(h:a=b):Ending.returned (.string a)=.returned (.string b):=by rw[h]
theorem bytes_toList(l:List UInt8):(⟨l.toArray⟩:ByteArray).data.toList=l:=by simp
theorem bytes_size(l:List UInt8):(⟨l.toArray⟩:ByteArray).size=l.length:=by show l.toArray.size=_;simp
theorem off_lt(l:List UInt8)(k:Nat)(h:k<(U.pts l).length):U.off (U.pts l) k<(U.rep l).length:=by
 have h1:=U.off_succ (U.pts l) k h;have h2:U.off (U.pts l) (k+1)<=(U.rep l).length:=U.off_le (U.pts l) (k+1);have h3:=(U.at_off l k h).2;have h4:=U.adv_pos ((U.rep l).drop (U.off (U.pts l) k));omega
theorem next_at(l:List UInt8)(wr:World)(b k:Nat)(h:k<(U.pts l).length)(hit:wr.heap[b]?=some (.stringIter ⟨(U.rep l).toArray⟩ (U.off (U.pts l) k))) :
  ∃C:Nat,∀ty,(Instr.next (.pointer (some ⟨b,0,none⟩)) true ty).run Tryz.prog wr=.ok (.tuple #[.bool true,.int .i64 (U.off (U.pts l) k:Nat),.int .i32 (C:Nat)]) (wr.iterAt b ⟨(U.rep l).toArray⟩ (U.off (U.pts l) (k+1))):=by
 have hlt:=off_lt l k h;have hlt':U.off (U.pts l) k<(⟨(U.rep l).toArray⟩:ByteArray).size:=by rw[bytes_size];exact hlt
 refine⟨(Utf8.decode ⟨(U.rep l).toArray⟩ (U.off (U.pts l) k)).1,fun ty=>?_⟩
 ·rw[Lib.run_next_any_at wr b ⟨(U.rep l).toArray⟩ (U.off (U.pts l) k) ty hit hlt']
  have e:(Utf8.decode ⟨(U.rep l).toArray⟩ (U.off (U.pts l) k)).2=(U.pts l)[k].length:=by
   rw[U.decode_eq _ _ hlt',bytes_toList];exact(U.at_off l k h).2
  rw[e,U.off_succ _ _ h]
theorem next_end(l:List UInt8)(wr:World)(b k:Nat)(h:(U.pts l).length<=k)(hit:wr.heap[b]?=some (.stringIter ⟨(U.rep l).toArray⟩ (U.off (U.pts l) k))) :
  ∀ty,(Instr.next (.pointer (some ⟨b,0,none⟩)) true ty).run Tryz.prog wr=.ok (.tuple #[.bool false]) wr:=fun ty=>by
 refine Lib.run_next_end_at wr b ⟨(U.rep l).toArray⟩ (U.off (U.pts l) k) ty hit ?_;rw[bytes_size,U.off_all _ _ h];exact Nat.lt_irrefl _
def stOf(L:List (List UInt8))(f k:Nat):Nat:=if f<k then U.off L f else L.flatten.length
def SlRel(l:List UInt8)(f t:Nat)(w1:World)(st en n:Value)(wr:World):Prop:=
 ∃k:Nat,k<=(U.pts l).length/\k<=t/\st=.int .i64 (stOf (U.pts l) f k:Nat)/\en=.int .i64 ((U.rep l).length:Nat)/\n=.int .i64 (k:Nat) ∧
  wr.heap[w1.heap.size]?=some (.stringIter ⟨(U.rep l).toArray⟩ (U.off (U.pts l) k))/\Below w1.heap.size w1 wr
theorem slice_str(R:List UInt8)(a b:Nat)(h:a<=b)(hb:b<=R.length):(⟨R.toArray⟩:ByteArray).extract a b=⟨((R.drop a).take (b-a)).toArray⟩:=by
 have:=extract_eq ⟨R.toArray⟩ a (b-a) (by rw[bytes_size];omega);rw[bytes_toList,show a+(b-a)=b by omega]at this;exact this
theorem Slice_some(s:ByteArray)(a:Int)(f t:Nat)(w:World)(hs:s.size<=1000000)(hT:Tabs w)(hmx:max a 0=(f:Int))(hft:f<t) :
  Calls Tryz.prog 54 #[.string s,.int .i64 a,.int .i64 (t:Int)] w fun e w'=>e=.returned (.string ⟨(U.sl (U.pts s.data.toList) f t).toArray⟩)/\Below w.heap.size w w':=by
 have hc:=hi_ (Repair s w hs hT);have hrl:=U.rep_le s.data.toList;rw[U.list_size]at hrl;have hpl:=U.pts_length s.data.toList;rw[U.list_size]at hpl;generalize s.data.toList=l at *
 go_enter Tryz.func54,Tryz.ntmps54
 go_wp2_with (go_at_call 104;refine hc.out.mono ?_)
 rintro e w1 ⟨rfl,b1⟩;have zw:=b1.size;have hsz:=bytes_size (U.rep l);have HSZ:=hi_ hsz;clear hsz;go_wp2_with fail
 go_loopw [7,8,9] (fun st en n wr=>SlRel l f t w1 st en n wr) (fun _ _ n _=>(U.pts l).length-(Go.RowKit.intOf n).toNat)
 case atStart=>
  refine⟨0,Nat.zero_le _,Nat.zero_le _,?_,rfl,rfl,?_,(Below.refl _ w1).alloc (Nat.le_refl _) _⟩
  ·unfold stOf;rw[if_neg (by omega)];rfl
  ·have:=World.iter_heap w1 ⟨(U.rep l).toArray⟩ 0
   simpa[U.off]using this
 case round=>
  obtain⟨k,hkN,hkt,rfl,rfl,rfl,hit,hB⟩:=hrel;have hsz:w1.heap.size<wr.heap.size:=(Array.getElem?_eq_some_iff.1 hit).1;have hok:=U.off_le (U.pts l) k;have hof:=U.off_le (U.pts l) f;have hRL:(U.pts l).flatten.length=(U.rep l).length:=rfl;rw[hRL]at hok hof;clear hRL
  by_cases hk:k<(U.pts l).length
  ·obtain⟨C,hnx⟩:=next_at l wr w1.heap.size k hk hit
   have hit2:=Lib.iterAt_heap wr w1.heap.size ⟨(U.rep l).toArray⟩ (U.off (U.pts l) k) (U.off (U.pts l) (k+1)) hit;have hB2:=Lib.below_iterAt hB (k:=w1.heap.size) (Nat.le_refl _) ⟨(U.rep l).toArray⟩ (U.off (U.pts l) (k+1))
   by_cases hkt2:k=t
   ·-- the slice ends here
    have hst:stOf (U.pts l) f k=U.off (U.pts l) f:=by unfold stOf;rw[if_pos (by omega)]
    have hmono:=U.off_mono (U.pts l) (show f<=k by omega);rw[hst];have hres:(⟨(U.rep l).toArray⟩:ByteArray).extract (U.off (U.pts l) f) (U.off (U.pts l) k)=⟨(U.sl (U.pts l) f t).toArray⟩:=by
     rw[slice_str (U.rep l) _ _ hmono (U.off_le (U.pts l) k),<-hkt2,<-U.sl_off _ _ _ (by omega)];rfl
    have HRES:=hi_ hres;clear hres hst;generalize U.off (U.pts l) f=F at *;generalize U.off (U.pts l) k=K at *;have t1:((k:Int)==(f:Int))=false:=beq_eq_false_iff_ne.2 (by omega);have t2:((k:Int)==(t:Int))=true:=beq_iff_eq.2 (by omega);have HK:=hi_ hkt2;clear hkt2;go_wp2_with fail
    go_ret
    exact⟨ret_str HRES.out,b1.trans (hB2.mono (by omega))⟩
   ·have t2:((k:Int)==(t:Int))=false:=beq_eq_false_iff_ne.2 (by omega)
    by_cases hkf:k=f
    ·have t1:((k:Int)==(f:Int))=true:=beq_iff_eq.2 (by omega)
     have HST:=hi_ (show stOf (U.pts l) f (k+1)=U.off (U.pts l) k by unfold stOf;rw[if_pos (by omega),hkf]);have HKF:=hi_ hkf;clear hkf;go_wp2_with fail
     go_roundw
     case rel=>exact⟨k+1,by omega,by omega,by rw[HST.out],rfl,by go_num,hit2,hB2⟩
     case measure=>simp[Go.RowKit.intOf];omega
    ·have t1:((k:Int)==(f:Int))=false:=beq_eq_false_iff_ne.2 (by omega)
     have HST:=hi_ (show stOf (U.pts l) f (k+1)=stOf (U.pts l) f k by unfold stOf;by_cases h:f<k;rw[if_pos h,if_pos (by omega)];rw[if_neg h,if_neg (by omega)]);clear hkf;go_wp2_with fail
     go_roundw
     case rel=>exact⟨k+1,by omega,by omega,by rw[HST.out],rfl,by go_num,hit2,hB2⟩
     case measure=>simp[Go.RowKit.intOf];omega
  ·have hnx:=next_end l wr w1.heap.size k (by omega) hit
   have hst:stOf (U.pts l) f k=U.off (U.pts l) f:=by
    unfold stOf
    by_cases h:f<k
    ·rw[if_pos h]
    ·rw[if_neg h,U.off_all _ _ (by omega)]
   have hres:(⟨(U.rep l).toArray⟩:ByteArray).extract (U.off (U.pts l) f) (U.rep l).length=⟨(U.sl (U.pts l) f t).toArray⟩:=by
    rw[slice_str (U.rep l) _ _ hof (Nat.le_refl _),<-U.sl_off _ f t (by omega),U.off_all _ t (by omega)];rfl
   rw[hst];have HRES:=hi_ hres;clear hres hst;generalize U.off (U.pts l) f=F at *;go_wp2_with fail
   go_ret
   exact⟨ret_str HRES.out,b1.trans (hB.mono (by omega))⟩
theorem Slice_none(s:ByteArray)(a b:Int)(f:Nat)(w:World)(hmx:max a 0=(f:Int))(hft:b<=f) :
  Calls Tryz.prog 54 #[.string s,.int .i64 a,.int .i64 b] w fun e w'=>e=.returned (.string ⟨#[]⟩)/\Below w.heap.size w w':=by
 go_enter Tryz.func54,Tryz.ntmps54
 go_wp2_with fail
 go_ret
 exact⟨rfl,Below.refl _ _⟩
theorem Slice(s:ByteArray)(a b:Int)(w:World)(hs:s.size<=1000000)(hT:Tabs w) :
  Calls Tryz.prog 54 #[.string s,.int .i64 a,.int .i64 b] w fun e w'=>e=.returned (.string ⟨(U.sl (U.pts s.data.toList) a.toNat b.toNat).toArray⟩)/\Below w.heap.size w w':=by
 have hmx:max a 0=((a.toNat:Nat):Int):=by omega
 by_cases h:b<=(a.toNat:Int)
 ·rw[U.sl_empty _ _ _ (by omega)]
  exact Slice_none s a b a.toNat w hmx h
 ·obtain⟨t,rfl⟩:=Int.eq_ofNat_of_zero_le (show 0<=b by omega)
  rw[Int.toNat_natCast];exact Slice_some s a a.toNat t w hs hT hmx (by omega)
end T
end
section
open Go.RowKit Go.Sort
namespace A
open H
theorem ptr_cases(T:TMem)(h:Int):(T.ptr 0 h=none/\T.ptr 1 h=none)\/∃i,T.ptr 0 h=some ⟨T.g,i*10,none⟩/\T.ptr 1 h=some ⟨T.g,i*10+1,none⟩:=by
 unfold TMem.ptr
 cases T.at_ h with
 |none=>exact Or.inl ⟨rfl,rfl⟩
 |some i=>exact Or.inr ⟨i,rfl,rfl⟩
theorem at1(T:TMem)(h:Int)(w:World)(hT:TreeMem w T)(hh:-9223372036854775808<=h)(hh2:h<=9223372036854775807) :
  Calls Tryz.prog 136 #[.pointer (some ⟨T.tb,0,none⟩),.int .i64 h] w fun e w'=>e=.returned (.pointer (T.ptr 1 h))/\Below w.heap.size w w':=by
 have QF:=hi_ (find T h w hT hh hh2);have HC:=hi_ (ptr_cases T h);clear hT;generalize T.ptr 0 h=P0 at *;generalize T.ptr 1 h=P1 at *
 go_enter Tryz.func136,Tryz.ntmps136
 go_wp2_with fail
 refine QF.out.mono ?_;rintro e w2 ⟨rfl,hb⟩
 rcases HC.out with⟨rfl,e2⟩|⟨i,rfl,e2⟩
 ·go_wp2_with fail
  go_ret
  exact⟨ret_ptr e2.symm,hb⟩
 ·go_wp2_with fail
  go_ret
  exact⟨ret_ptr e2.symm,hb⟩
theorem at_(T:TMem)(h:Int)(w:World)(hT:TreeMem w T)(hh:-9223372036854775808<=h)(hh2:h<=9223372036854775807) :
  Calls Tryz.prog 83 #[.pointer (some ⟨T.tb,0,none⟩),.int .i64 h] w fun e w'=>e=.returned (.pointer (T.ptr 1 h))/\Below w.heap.size w w':=by
 have QF:=hi_ (at1 T h w hT hh hh2);clear hT;generalize T.ptr 1 h=P1 at *
 go_enter Tryz.func83,Tryz.ntmps83
 go_wp2_with fail
 refine QF.out.mono ?_;rintro e w2 ⟨rfl,hb⟩;go_wp2_with fail
 go_ret
 exact⟨rfl,hb⟩
end A
end
section
open Go.RowKit Go.Sort
namespace R
open H G A
structure MNode where
 n:G.Node
 av:Value
 kv:Value
def parI:Option Nat->Int
 |none=>-1
 |some p=>p
def ncells(x:MNode):List Value:=[.int .i64 (x.n.kind:Nat),.string ⟨x.n.name.toArray⟩,x.av,.string ⟨x.n.data.toArray⟩,.int .i64 (parI x.n.parent),x.kv,.bool x.n.gone]
theorem ncells_len(x:MNode):(ncells x).length=7:=rfl
structure MMem where
 mb:Nat
 g:Nat
 cap:Nat
 nodes:List MNode
 B:Nat
def MMem.m(M:MMem):Model:=M.nodes.map (·.n)
def blankM:MNode:=⟨G.blank,.slice none 0 0,.slice none 0 0⟩
def MMem.at_(M:MMem)(i:Nat):MNode:=M.nodes.getD i blankM
structure ModelMem(w:World)(M:MMem):Prop where
 blk:Blk M.mb #[.slice (some ⟨M.g,0,none⟩) M.nodes.length M.cap] 102 w
 row:RecRow ncells M.B 105 7 w (.slice (some ⟨M.g,0,none⟩) M.nodes.length M.cap) M.nodes
 few:M.nodes.length<=1000000
 bb:M.B<=M.mb
 kids:∀x,x∈M.nodes->OwnN M.B w x.kv x.n.kids
 attrs:∀x,x∈M.nodes->RecRow acells M.B 143 2 w x.av x.n.attrs
 kapart:∀i j,i<M.nodes.length->j<M.nodes.length->i≠j->∀g,(M.at_ i).kv.ownBlock=some g->(M.at_ j).kv.ownBlock≠some g
 aapart:∀i j,i<M.nodes.length->j<M.nodes.length->i≠j->∀g,(M.at_ i).av.ownBlock=some g->(M.at_ j).av.ownBlock≠some g
section
variable {w w':World} {M:MMem}
theorem MMem.m_len(M:MMem):M.m.length=M.nodes.length:=by unfold MMem.m;simp
theorem MMem.nd_at(M:MMem)(i:Nat):nd M.m i=(M.at_ i).n:=by
 unfold MMem.m MMem.at_ nd;rw[List.getD_eq_getElem?_getD,List.getD_eq_getElem?_getD,List.getElem?_map]
 cases M.nodes[i]? with
 |none=>rfl
 |some x=>rfl
theorem MMem.at_mem{i:Nat}(h:i<M.nodes.length):M.at_ i=M.nodes[i]/\M.at_ i∈M.nodes:=by
 have:M.at_ i=M.nodes[i]:=by unfold MMem.at_;simp[List.getD,h]
 exact⟨this,by rw[this];exact List.getElem_mem h⟩
theorem ModelMem.below(h:ModelMem w M)(b:Below w.heap.size w w'):ModelMem w' M:=
 ⟨h.blk.below b,own_below h.row b,h.few,h.bb,fun x hx=>own_below (h.kids x hx) b,fun x hx=>own_below (h.attrs x hx) b,h.kapart,h.aapart⟩
def MMem.foot(M:MMem)(k:Nat):Prop:=k=M.mb\/k=M.g\/∃x∈M.nodes,x.kv.ownBlock=some k\/x.av.ownBlock=some k
theorem ModelMem.frame{S:Nat->Prop}(h:ModelMem w M)(f:H.Frame S w w')(hn:∀k,M.foot k->¬S k):ModelMem w' M:=
 ⟨h.blk.frame f (hn _ (Or.inl rfl)),own_frame h.row f (fun g hg=>hn g (Or.inr (Or.inl (by simpa[Value.ownBlock]using hg.symm)))),h.few,h.bb,
  fun x hx=>own_frame (h.kids x hx) f (fun g hg=>hn g (Or.inr (Or.inr ⟨x,hx,Or.inl hg⟩))),fun x hx=>own_frame (h.attrs x hx) f (fun g hg=>hn g (Or.inr (Or.inr ⟨x,hx,Or.inr hg⟩))),h.kapart,h.aapart⟩
theorem ModelMem.top(h:ModelMem w M):w.cell? ⟨M.mb,0,none⟩=some (.slice (some ⟨M.g,0,none⟩) M.nodes.length M.cap)/\M.mb<w.heap.size/\M.g<w.heap.size:=
 ⟨(cells_of h.blk).1 0,h.blk.lt,(ownsRow_open h.row).1⟩
theorem ModelMem.cell(h:ModelMem w M){i:Nat}(hi:i<M.nodes.length) :
  w.cell? ⟨M.g,i*7,none⟩=some (.int .i64 ((nd M.m i).kind:Nat))/\w.cell? ⟨M.g,i*7+1,none⟩=some (.string ⟨(nd M.m i).name.toArray⟩)/\w.cell? ⟨M.g,i*7+2,none⟩=some (M.at_ i).av ∧
  w.cell? ⟨M.g,i*7+3,none⟩=some (.string ⟨(nd M.m i).data.toArray⟩)/\w.cell? ⟨M.g,i*7+4,none⟩=some (.int .i64 (parI (nd M.m i).parent))/\w.cell? ⟨M.g,i*7+5,none⟩=some (M.at_ i).kv/\w.cell? ⟨M.g,i*7+6,none⟩=some (.bool (nd M.m i).gone):=by
 have hc:=fun k (hk:k<7)=>(RecRow.cell ncells_len h.row hi (k:=k) hk).1;rw[M.nd_at,(MMem.at_mem hi).1];exact⟨hc 0 (by omega),hc 1 (by omega),hc 2 (by omega),hc 3 (by omega),hc 4 (by omega),hc 5 (by omega),hc 6 (by omega)⟩
theorem ModelMem.kidsRow(h:ModelMem w M){i:Nat}(hi:i<M.nodes.length):OwnN M.B w (M.at_ i).kv (nd M.m i).kids:=by
 rw[M.nd_at];exact h.kids _ (MMem.at_mem hi).2
theorem ModelMem.attrsRow(h:ModelMem w M){i:Nat}(hi:i<M.nodes.length):RecRow acells M.B 143 2 w (M.at_ i).av (nd M.m i).attrs:=by
 rw[M.nd_at];exact h.attrs _ (MMem.at_mem hi).2
theorem OwnN.form{base:Nat}{v:Value}{l:List Nat}(h:OwnN base w v l):∃ao cap,v=.slice ao l.length cap/\∀i x,l[i]?=some x->∃g,ao=some ⟨g,0,none⟩/\g<w.heap.size/\w.cell? ⟨g,i,none⟩=some (.int .i64 (x:Nat)):=by
 unfold OwnN at h
 rcases h.2 with⟨h1,h2⟩|⟨g,cap,cur,h1,hb,hg,hn,hm,hc,ht⟩
 ·refine⟨none,0,by rw[h1,h2],fun i x hx=>?_⟩
  rw[List.length_eq_zero_iff.1 h2]at hx
  cases hx
 ·refine⟨_,cap,h1,fun i x hx=>⟨g,rfl,lt_of_block hg,?_⟩⟩
  have hlt:i<l.length:=by
   rcases Nat.lt_or_ge i l.length with h2|h2
   ·exact h2
   ·rw[List.getElem?_eq_none h2]at hx;cases hx
  rw[h1]at h;have:=((ownsRow_open h).2.2.2 i (by rw[h.1];omega)).1;rw[this];unfold natVs;rw[List.getElem?_map,hx];rfl
end
end R
end
section
open Go.RowKit
namespace N
theorem below_dr{B:Nat}{w w':World}(h:Below B w w')(n:Nat):Below B w (w'.drewN n):=⟨h.os,h.tape,h.output,h.size,h.block⟩
def Asc(s:ByteArray):Prop:=∀(j:Nat) (h:j<s.size),(s[j]'h).toNat<128
theorem noByte{l:List UInt8}{b:UInt8}(hl:∀x∈l,x.toNat<128)(hb:128<=b.toNat):Lib.indexByte l b=-1:=by
 induction l with
 |nil=>rfl
 |cons a t ih=>
  have h1:=hl a (by simp);have h2:¬a=b:=fun e=>by rw[e]at h1;omega
  rw[Lib.indexByte,ih (fun x hx=>hl x (by simp[hx]))];simp[h2]
def RelR(s:ByteArray)(w1:World)(wr:World):Prop:=∃pos:Nat,pos<=s.size/\wr.heap[w1.heap.size]?=some (.stringIter s pos)/\Below w1.heap.size w1 wr
def posOf(w:World)(b:Nat):Nat:=match w.heap[b]? with|some (.stringIter s pos)=>s.size-pos|_=>0
theorem indexRune_fffd(s:ByteArray)(w:World)(hs:Asc s)(hsz:s.size<=100) :
  Calls Tryz.prog 170 #[.string s,.int .i32 65533] w fun e w'=>e=.returned (.int .i64 (-1))/\Below w.heap.size w w':=by
 go_enter Tryz.func170,Tryz.ntmps170
 go_wp2_with fail
 go_loopw [4] (fun v wr=>v=.int .i64 0/\RelR s w wr) (fun _ wr=>posOf wr w.heap.size)
 case atStart=>exact⟨rfl,0,Nat.zero_le _,by simpa using World.iter_heap w s 0,(Below.refl _ w).alloc (Nat.le_refl _) _⟩
 case round=>
  obtain⟨rfl,pos,hp,hit,hB⟩:=hrel
  by_cases hlt:pos<s.size
  ·have hnx:=fun ty=>Lib.run_next_ascii_at (P:=Tryz.prog) wr w.heap.size s pos ty hit hlt (hs pos hlt)
   have hlt2:=hs pos hlt;have hit2:=Lib.iterAt_heap wr w.heap.size s pos (pos+1) hit;have hB2:=Lib.below_iterAt hB (k:=w.heap.size) (Nat.le_refl _) s (pos+1);generalize s[pos]=c at *;have t1:((c.toNat:Int)==65533)=false:=beq_eq_false_iff_ne.2 (by omega);have t2:¬(c.toNat:Int)=65533:=by omega
   have HM:Hid (posOf (wr.iterAt w.heap.size s (pos+1)) w.heap.size<posOf wr w.heap.size):=hi_ (by unfold posOf;rw[hit2,hit];show s.size-(pos+1)<s.size-pos;omega);clear hlt2;go_wp2_with fail
   go_roundw
   case rel=>exact⟨rfl,pos+1,by omega,hit2,hB2⟩
   case measure=>exact HM.out
  ·have hnx:=fun ty=>Lib.run_next_end_at (P:=Tryz.prog) wr w.heap.size s pos ty hit hlt
   go_wp2_with fail
   go_ret
   exact⟨rfl,hB⟩
def Good(E:ByteArray):Prop:=∃k:Nat,∃h:E.size=k+1,k<=3/\128<=(E[k]'(by omega)).toNat
theorem enc_good(r:Nat)(h1:128<=r)(h2:r<=1114111):Good (Utf8.encode (r:Int)):=by
 have key:∀c:Nat,128<=c->Good (if c<0x80 then⟨#[UInt8.ofNat c]⟩else if c<0x800 then⟨#[UInt8.ofNat (0xC0+c / 64),UInt8.ofNat (0x80+c % 64)]⟩else if c<0x10000 then⟨#[UInt8.ofNat (0xE0+c / 4096),UInt8.ofNat (0x80+c / 64 % 64),UInt8.ofNat (0x80+c % 64)]⟩ else⟨#[UInt8.ofNat (0xF0+c / 262144),UInt8.ofNat (0x80+c / 4096 % 64),UInt8.ofNat (0x80+c / 64 % 64),UInt8.ofNat (0x80+c % 64)]⟩):=by
  intro c hc;have hlast:128<=(UInt8.ofNat (0x80+c % 64)).toNat:=by
   rw[UInt8.toNat_ofNat'];omega
  rw[if_neg (by omega)]
  split
  ·exact⟨1,rfl,by omega,hlast⟩
  ·split
   ·exact⟨2,rfl,by omega,hlast⟩
   ·exact⟨3,rfl,by omega,hlast⟩
 unfold Utf8.encode;refine key _ ?_
 split
 ·omega
 ·unfold Utf8.runeError;omega
theorem indexRune_high(s:ByteArray)(r:Nat)(w:World)(hs:Asc s)(hsz:s.size<=100)(h1:128<=r)(h2:r<=1114111)(h3:r≠65533) :
  Calls Tryz.prog 170 #[.string s,.int .i32 r] w fun e w'=>e=.returned (.int .i64 (-1))/\Below w.heap.size w w':=by
 have t0:(0:Int)<=(r:Int):=by omega
 have t1:¬(r:Int)<128:=by omega
 have t2:((r:Int)==65533)=false:=beq_eq_false_iff_ne.2 (by omega);have t3:¬(r:Int)=65533:=by omega
 have QV:=hi_ (Tryz.utf8_ValidRune r w);generalize Lib.validRune r=vr at *
 go_enter Tryz.func170,Tryz.ntmps170
 go_wp2_with fail
 refine QV.out.mono ?_;rintro e w2 ⟨rfl,rfl⟩
 cases vr with
 |false=>
  go_wp2_with fail
  go_ret
  exact⟨rfl,Below.refl _ _⟩
 |true=>
  have HE:=hi_ (enc_good r h1 h2);have HAsc:=hi_ hs;clear QV hs;go_wp2_with fail
  go_step3
  go_wp2_with fail
  obtain⟨E,hE⟩:∃E,E=Utf8.encode (r:Int):=⟨_,rfl⟩;rw[<-hE]at HE ⊢;clear hE;obtain⟨k,hk,hk4,hkb⟩:=HE.out;have hz:wrap64 ((E.size:Int)-1)=(k:Int):=by unfold wrap64;omega
  rw[hz];have hkE:(k:Int)<(E.size:Int):=by omega
  have HEs:=hi_ hk;have QB:=hi_ (fun(x:ByteArray) (c:UInt8) W=>(Tryz.strings_IndexByte x (c.toNat:Int) W).mono (R':=fun e w'=>e=.returned (.int .i64 (Lib.indexByte x.data.toList c))/\W=w') (fun _ _ h=>⟨by rw[h.1];simp,h.2.symm⟩))
  go_loopw [9] (fun v9 wr=>v9=.int .i64 (k:Nat)/\wr=w2) (fun _ _=>0)
  case atStart=>exact⟨rfl,rfl⟩
  case round=>
   obtain⟨rfl,rfl⟩:=hrel
   by_cases hks:k<s.size
   ·have hksI:(k:Int)<(s.size:Int):=by omega
    have hcs:=HAsc.out k hks;have hkE':k<E.size:=by omega
    have hne:((s[k]'hks).toNat:Int)≠((E[k]'hkE').toNat:Int):=by omega
    have hne2:(((s[k]'hks).toNat:Int)==((E[k]'hkE').toNat:Int))=false:=beq_eq_false_iff_ne.2 hne;have wk:wrap64 ((k:Int)+1)=(k:Int)+1:=by unfold wrap64;omega
    have wk2:IntKind.i64.wrap ((k:Int)+1)=(k:Int)+1:=IntWalk.i64_in _ (by omega);have hk0:(0:Int)<=(k:Int)+1:=by omega
    have hk1:(k:Int)+1<=(s.size:Int):=by omega
    have HNB:Hid (∀j,Lib.indexByte (s.extract j s.size).data.toList (E[k]'hkE')=-1):=hi_ (fun j=>noByte (fun x hx=>by
     have hx2:x∈s.data.toList:=by
      rw[ByteArray.data_extract,Array.toList_extract]at hx;exact List.mem_of_mem_drop (List.mem_of_mem_take hx)
     obtain⟨i,hi,rfl⟩:=List.mem_iff_getElem.1 hx2;exact HAsc.out i (by simpa using hi)) hkb)
    have Q1:∀W:World,Calls Tryz.prog 153 #[.string (s.extract (k+1) s.size),.int .u8 ((E[k]'hkE').toNat:Int)] W fun e w'=>e=.returned (.int .i64 (-1))/\W=w':=fun W=>by
     have h:=QB.out (s.extract (k+1) s.size) (E[k]'hkE') W;rw[HNB.out]at h;exact h
    have Q:=hi_ Q1;clear hkb hk Q1 HNB QB;go_wp2_with fail
    go_step3
    go_wp2_with fail
    go_quiet (fail)
    go_wp2_with fail
    have HBw:=hi_ (below_dr (Below.refl wr.heap.size wr) nq);generalize wr.drewN nq=wz at *
    go_quiet ((go_at_call 153;exact H.quietAdd (Q.out _)))
    go_wp2_with fail
    rw[Exit.noGoto_ret];change bodyPost _ _ (fun e w'=>e=Ending.returned (Value.int IntKind.i64 (-1))/\Below wr.heap.size wr w') Exit.ret _ _;go_ret
    exact⟨rfl,below_dr HBw.out _⟩
   ·have hksI:¬(k:Int)<(s.size:Int):=by omega
    go_wp2_with fail
    go_ret
    exact⟨rfl,Below.refl _ _⟩
theorem indexRune_ge(s:ByteArray)(r:Nat)(w:World)(hs:Asc s)(hsz:s.size<=100)(h1:128<=r)(h2:r<=1114111) :
  Calls Tryz.prog 170 #[.string s,.int .i32 r] w fun e w'=>e=.returned (.int .i64 (-1))/\Below w.heap.size w w':=by
 by_cases h3:r=65533
 ·subst h3;exact indexRune_fffd s w hs hsz
 ·exact indexRune_high s r w hs hsz h1 h2 h3
end N
end
section
open Go.RowKit
namespace T
theorem sl_snoc(L:List (List UInt8))(f k:Nat)(hf:f<=k)(hk:k<L.length):U.sl L f (k+1)=U.sl L f k++L.getD k []:=by
 unfold U.sl;rw[List.take_succ_eq_append_getElem hk,List.drop_append_of_le_length (by rw[List.length_take];omega),List.flatten_append];simp[List.getD,hk]
theorem flat_drop_le(L:List (List UInt8))(n:Nat):(L.drop n).flatten.length<=L.flatten.length:=by
 have e:L.flatten=(L.take n).flatten++(L.drop n).flatten:=by rw[<-List.flatten_append,List.take_append_drop]
 rw[e,List.length_append];omega
theorem flat_take_le(L:List (List UInt8))(n:Nat):(L.take n).flatten.length<=L.flatten.length:=by
 have e:L.flatten=(L.take n).flatten++(L.drop n).flatten:=by rw[<-List.flatten_append,List.take_append_drop]
 rw[e,List.length_append];omega
theorem sl_length(L:List (List UInt8))(f k:Nat):(U.sl L f k).length<=L.flatten.length:=by
 unfold U.sl;exact Nat.le_trans (flat_drop_le _ _) (flat_take_le _ _)
def StrRow(w:World)(ao:Option Addr)(L:List (List UInt8)):Prop:=
 0<L.length->∃g,ao=some ⟨g,0,none⟩/\g<w.heap.size/\∀j,j<L.length->w.cell? ⟨g,j,none⟩=some (.string ⟨(L.getD j []).toArray⟩)
theorem StrRow.below{w w':World}{ao:Option Addr}{L:List (List UInt8)}(h:StrRow w ao L)(b:Below w.heap.size w w'):StrRow w' ao L:=fun hl=>by
 obtain⟨g,e,hg,hc⟩:=h hl;exact⟨g,e,Nat.lt_of_lt_of_le hg b.size,fun j hj=>(b.cell (p:=⟨g,j,none⟩) hg).trans (hc j hj)⟩
theorem append_bytes(a b:List UInt8):(⟨a.toArray⟩:ByteArray)++⟨b.toArray⟩=⟨(a++b).toArray⟩:=by
 have h:((⟨a.toArray⟩:ByteArray)++⟨b.toArray⟩).data=a.toArray++b.toArray:=by
  simp[ByteArray.data_append]
 cases hx:(⟨a.toArray⟩:ByteArray)++⟨b.toArray⟩ with
 |mk d=>rw[hx]at h;simp at h;rw[h]
theorem refJoin(ao:Option Addr)(cap:Nat)(L:List (List UInt8))(a b:Int)(f:Nat)(w:World)(hL:L.flatten.length<=1000000)(hN:L.length<=1000000)(hr:StrRow w ao L)(hmx:max a 0=(f:Int))(hb:b<=L.length) :
  Calls Tryz.prog 56 #[.slice ao L.length cap,.int .i64 a,.int .i64 b] w fun e w'=>e=.returned (.string ⟨(U.sl L f b.toNat).toArray⟩)/\w=w':=by
 have HR:=hi_ hr;clear hr
 go_enter Tryz.func56,Tryz.ntmps56
 go_wp2_with fail
 go_loop [7,8] (fun o i=>∃k:Nat,f<=k/\(k<=L.length\/k=f)/\(k<=b.toNat\/k=f)/\i=.int .i64 k/\o=.string ⟨(U.sl L f k).toArray⟩) (fun _ i=>L.length-(Go.RowKit.intOf i).toNat)
 case atStart=>exact⟨f,Nat.le_refl _,.inr rfl,.inr rfl,rfl,by rw[U.sl_empty _ _ _ (Nat.le_refl _)]⟩
 case round=>
  obtain⟨k,hfk,hk1,hk2,rfl,rfl⟩:=hrel;have hl1:=sl_length L f k
  by_cases hkb:(k:Int)<b
  ·have hkL:k<L.length:=by omega
   obtain⟨g,rfl,hg,hc⟩:=HR.out (by omega);have hcell:=hc k hkL;have HS:=hi_ (sl_snoc L f k hfk hkL);have hl2:=sl_length L f (k+1);rw[HS.out,List.length_append]at hl2;clear hc;have hab:=append_bytes (U.sl L f k) (L.getD k []);have HAB:=hi_ hab;clear hab;generalize L.getD k []=c at *;have z1:=bytes_size (U.sl L f k);have z2:=bytes_size c;have zz:((⟨(U.sl L f k).toArray⟩:ByteArray).size:Int)+((⟨c.toArray⟩:ByteArray).size:Int)<=1000000:=by omega
   clear z1 z2;generalize U.sl L f k=q at *;go_wp2_with fail
   go_round
   case rel=>exact⟨k+1,by omega,.inl (by omega),.inl (by omega),by go_num,by rw[HS.out];simp only[HAB.out]⟩
   case measure=>simp[Go.RowKit.intOf];omega
  ·have hkb':b<=(k:Int):=by omega
   have HE:=hi_ (show U.sl L f k=U.sl L f b.toNat by
    rcases hk2 with h|h
    ·rw[show b.toNat=k by omega]
    ·rw[h,U.sl_empty _ _ _ (Nat.le_refl _),U.sl_empty _ _ _ (by omega)])
   clear hkb;go_wp2_with fail
   go_ret
   exact⟨ret_str (by rw[HE.out]),rfl⟩
end T
end
section
open Go.RowKit Go.Sort
namespace A
open H G
def freeSlot:Slot:=⟨false,0,[],.slice none 0 0,[],[],0,0,0,0,0⟩
def TMem.sl(T:TMem)(s:Nat):Slot:=T.slots.getD s freeSlot
def hd(T:TMem)(pos:Nat->Nat)(i:Nat):Int:=handle T.bs T.st (pos i)
def hdO(T:TMem)(pos:Nat->Nat):Option Nat->Int
 |none=>0
 |some i=>hd T pos i
def prevSib(m:Model)(i:Nat):Option Nat:=match (nd m i).parent with|none=>none|some p=>prevAt2 (nd m p).kids ((nd m p).kids.idxOf i)
where prevAt2 (l:List Nat) (i:Nat):Option Nat:=if i=0 then none else l[i-1]?
def nextSib(m:Model)(i:Nat):Option Nat:=match (nd m i).parent with|none=>none|some p=>(nd m p).kids[(nd m p).kids.idxOf i+1]?
structure Fits(T:TMem)(m:Model)(pos:Nat->Nat):Prop where
 wf:WF m
 lt:∀i,has m i=true->pos i<T.slots.length
 used:∀i,has m i=true->(T.sl (pos i)).used=true
 kind:∀i,has m i=true->(T.sl (pos i)).kind=(nd m i).kind
 name:∀i,has m i=true->(T.sl (pos i)).name=(nd m i).name
 attrs:∀i,has m i=true->(T.sl (pos i)).al=(nd m i).attrs
 data:∀i,has m i=true->(T.sl (pos i)).data=(nd m i).data
 parent:∀i,has m i=true->(T.sl (pos i)).parent=hdO T pos (nd m i).parent
 first:∀i,has m i=true->(T.sl (pos i)).first=hdO T pos (nd m i).kids.head?
 last:∀i,has m i=true->(T.sl (pos i)).last=hdO T pos (nd m i).kids.getLast?
 prev:∀i,has m i=true->(T.sl (pos i)).prev=hdO T pos (prevSib m i)
 next:∀i,has m i=true->(T.sl (pos i)).next=hdO T pos (nextSib m i)
 inj:∀i j,has m i=true->has m j=true->pos i=pos j->i=j
 onto:∀s,s<T.slots.length->(T.sl s).used=true->∃i,has m i=true/\pos i=s
 frees:T.frees.Nodup/\∀s,s∈T.frees->s<T.slots.length/\(T.sl s).used=false
 live:T.live=(((List.range m.length).filter (has m)).length:Nat)
 root:T.root=hd T pos 0
structure TreeIs(w:World)(T:TMem)(m:Model)(pos:Nat->Nat):Prop where
 mem:TreeMem w T
 fits:Fits T m pos
section
variable {T:TMem} {m:Model} {pos:Nat->Nat}
theorem hd_pos(i:Nat):1<=hd T pos i:=handle_pos _ _ _
theorem hd_big(hT:T.slots.length<=1000000)(F:Fits T m pos){i:Nat}(hi:has m i=true):hd T pos i<=1000001000:=by
 have h1:=F.lt i hi;have h2:=nrm_le T.bs;have h3:=nrm_le T.st;have h4:nrm T.st*(pos i:Int)<=1000*1000000:=Int.mul_le_mul h3.2 (by omega) (by omega) (by omega);unfold hd handle;omega
theorem sl_at{s:Nat}(h:s<T.slots.length):T.sl s=T.slots[s]:=by unfold TMem.sl;simp[List.getD,h]
theorem at_hd(hT:T.slots.length<=1000000)(F:Fits T m pos){i:Nat}(hi:has m i=true):T.at_ (hd T pos i)=some (pos i):=by
 have h1:=F.lt i hi;have h2:=F.used i hi;rw[sl_at h1]at h2;unfold TMem.at_ hd;rw[slotOf_handle (by omega)];dsimp only;rw[dif_pos h1,if_pos h2]
theorem ptr_hd(hT:T.slots.length<=1000000)(F:Fits T m pos){i:Nat}(hi:has m i=true)(o:Nat):T.ptr o (hd T pos i)=some ⟨T.g,pos i*10+o,none⟩:=by
 unfold TMem.ptr;rw[at_hd hT F hi];rfl
theorem ptr_zero(o:Nat):T.ptr o 0=none:=by
 unfold TMem.ptr TMem.at_
 cases h:slotOf T.bs T.st 0 with
 |none=>rfl
 |some i=>
  have h1:=(slotOf_inv h).1;have h2:=handle_pos T.bs T.st i;omega
theorem ptr_none(F:Fits T m pos){z:Int}(hz:∀i,has m i=true->hd T pos i≠z)(o:Nat):T.ptr o z=none:=by
 unfold TMem.ptr TMem.at_
 cases h:slotOf T.bs T.st z with
 |none=>rfl
 |some s=>
  dsimp only
  by_cases h1:s<T.slots.length
  ·rw[dif_pos h1]
   by_cases h2:T.slots[s].used=true
   ·obtain⟨i,hi,hp⟩:=F.onto s h1 (by rw[sl_at h1];exact h2)
    have:=(slotOf_inv h).1;exact absurd (by unfold hd;rw[hp,this]) (hz i hi)
   ·rw[if_neg h2];rfl
  ·rw[dif_neg h1];rfl
theorem hd_inj(F:Fits T m pos){i j:Nat}(hi:has m i=true)(hj:has m j=true)(h:hd T pos i=hd T pos j):i=j:=by
 have h3:=nrm_le T.st;refine F.inj i j hi hj ?_;unfold hd handle at h;have h4:nrm T.st*(pos i:Int)=nrm T.st*(pos j:Int):=by omega
 have:=Int.eq_of_mul_eq_mul_left (by omega) h4;omega
theorem TreeIs.cell{w:World}(h:TreeIs w T m pos){i:Nat}(hi:has m i=true){k:Nat}(hk:k<10):w.cell? ⟨T.g,pos i*10+k,none⟩=(scells (T.sl (pos i)))[k]?/\w.frozen? ⟨T.g,pos i*10+k,none⟩=false:=by
 have h1:=h.fits.lt i hi;rw[sl_at h1];exact RecRow.cell scells_len h.mem.row h1 hk
theorem TreeIs.below{w w':World}(h:TreeIs w T m pos)(b:Below w.heap.size w w'):TreeIs w' T m pos:=⟨h.mem.below b,h.fits⟩
theorem has_parent(F:Fits T m pos){i p:Nat}(hi:has m i=true)(hp:(nd m i).parent=some p):has m p=true:=by
 have:=F.wf.gone i p hp;unfold has at hi ⊢;rw[<-this];exact hi
def deep(T:TMem)(m:Model)(pos:Nat->Nat)(z:Int):Nat:=match (List.range m.length).find? (fun y=>has m y && decide (hd T pos y=z))with|some y=>depth m y|none=>0
theorem deep_hd(F:Fits T m pos){i:Nat}(hi:has m i=true):deep T m pos (hd T pos i)=depth m i:=by
 unfold deep
 cases h:(List.range m.length).find? (fun y=>has m y && decide (hd T pos y=hd T pos i)) with
 |none=>
  have:=List.find?_eq_none.1 h i (List.mem_range.2 (has_lt hi));simp[hi]at this
 |some y=>
  have h1:=List.find?_some h;rw[Bool.and_eq_true,decide_eq_true_eq]at h1;rw[hd_inj F h1.1 hi h1.2]
theorem deep_zero:deep T m pos 0=0:=by
 unfold deep
 cases h:(List.range m.length).find? (fun y=>has m y && decide (hd T pos y=0)) with
 |none=>rfl
 |some y=>
  have h1:=List.find?_some h;rw[Bool.and_eq_true,decide_eq_true_eq]at h1;have:=hd_pos (T:=T) (pos:=pos) y;omega
end
def intOfV(v:Value):Int:=match v with | .int _ z=>z|_=>0
theorem contains_(T:TMem)(m:Model)(pos:Nat->Nat)(i j:Nat)(w:World)(hT:TreeIs w T m pos)(hi:has m i=true)(hj:has m j=true) :
  Calls Tryz.prog 40 #[.pointer (some ⟨T.tb,0,none⟩),.int .i64 (hd T pos i),.int .i64 (hd T pos j)] w fun e w'=>e=.returned (.bool (contains m i j))/\Below w.heap.size w w':=by
 have hF:=hT.fits;have hfew:=hT.mem.few;have HT:=hi_ hT;have QA:=hi_ (fun(z:Int) (h0:0<=z) (h1:z<=1000001000) W (hb:Below w.heap.size w W)=>at_ T z W (hT.below hb).mem (by omega) (by omega));have hbi:=hd_big hfew hF hi;have hbj:=hd_big hfew hF hj;have hpi:=hd_pos (T:=T) (pos:=pos) i;have hpj:=hd_pos (T:=T) (pos:=pos) j;have pI:=ptr_hd hfew hF hi 1;have pJ:=ptr_hd hfew hF hj 1;have Q1:=hi_ (QA.out (hd T pos i) (by omega) hbi w (Below.refl _ w));rw[pI]at Q1;have HJ0:Hid (contains m i j=contains m i j):=hi_ rfl;have HJh:=hi_ hj;clear hT
 go_enter Tryz.func40,Tryz.ntmps40
 go_wp2_with fail
 refine Q1.out.mono ?_;rintro e w1 ⟨rfl,hb1⟩;have HB1:=hi_ hb1;have Q2:=hi_ (QA.out (hd T pos j) (by omega) hbj w1 hb1);rw[pJ]at Q2;clear hb1 Q1;go_wp2_with fail
 refine Q2.out.mono ?_;rintro e w2 ⟨rfl,hb2⟩;have HB2:=bt_ HB1 hb2;clear hb2 Q2;go_wp2_with fail
 have HB0:Hid (Below w.heap.size w w2):=HB2;clear HB1
 go_loopw [2,7] (fun v2 v7 wr=>∃o:Option Nat,v2=.int .i64 (hdO T pos o)/\v7=.pointer (T.ptr 1 (hdO T pos o))/\Hid (∀y,o=some y->has m y=true)/\Hid (contains m i j=match o with|some y=>contains m i y|none=>false)/\Hid (Below w.heap.size w wr)) (fun v2 _ _=>deep T m pos (intOfV v2))
 case atStart=>exact⟨some j,rfl,by show Value.pointer _=.pointer (T.ptr 1 (hd T pos j));rw[pJ],hi_ (fun y hy=>by injection hy with hy;rw[<-hy];exact HJh.out),hi_ rfl,HB0⟩
 case round=>
  obtain⟨o,rfl,rfl,HH,HC,HU⟩:=hrel;clear HJ0 HB0 HJh HB2 pJ
  cases o with
  |none=>
   have e1:T.ptr 1 (hdO T pos none)=none:=ptr_zero 1;have HF:Hid (contains m i j=false):=HC;rw[e1];go_wp2_with fail
   go_ret
   exact⟨by rw[HF.out];rfl,HU.out⟩
  |some y=>
   have hy:=HH.out y rfl;have hTr:=HT.out.below HU.out;have e1:T.ptr 1 (hdO T pos (some y))=some ⟨T.g,pos y*10+1,none⟩:=ptr_hd hfew hF hy 1;have HC2:Hid (contains m i j=contains m i y):=HC;have hcell:=(hTr.cell hy (k:=5) (by omega)).1;have k5:wr.cell? ⟨T.g,pos y*10+5,none⟩=some (.int .i64 (hdO T pos (nd m y).parent)):=by
    rw[hcell,<-hF.parent y hy];rfl
   have hr:0<=hdO T pos (nd m y).parent/\hdO T pos (nd m y).parent<=1000001000:=by
    cases hp:(nd m y).parent with
    |none=>exact⟨Int.le_refl 0,by show(0:Int)<=1000001000;omega⟩
    |some p=>exact⟨by have:=hd_pos (T:=T) (pos:=pos) p;show 0<=hd T pos p;omega,hd_big hfew hF (has_parent hF hy hp)⟩
   have Q3:=hi_ (QA.out (hdO T pos (nd m y).parent) hr.1 hr.2 wr HU.out);have HD:Hid (deep T m pos (hdO T pos (nd m y).parent)<deep T m pos (hd T pos y)):=hi_ (by
    rw[deep_hd hF hy]
    cases hp:(nd m y).parent with
    |none=>show deep T m pos 0<_;rw[deep_zero];have:=hF.wf.depth_pos y;omega
    |some p=>
     show deep T m pos (hd T pos p)<_;rw[deep_hd hF (has_parent hF hy hp),hF.wf.depth_step hp];omega)
   rw[e1];have hzz:∃z,z=hdO T pos (some y):=⟨_,rfl⟩;obtain⟨z,hz⟩:=hzz;rw[<-hz];have HDz:Hid (deep T m pos (hdO T pos (nd m y).parent)<deep T m pos z):=hi_ (by rw[hz];exact HD.out);clear hr hcell HD e1
   by_cases e:i=y
   ·have e2:(hd T pos i==z)=true:=by rw[hz,e];exact beq_self_eq_true _
    have HF:Hid (contains m i j=true):=hi_ (by rw[HC2.out,e];exact hF.wf.contains_self y);clear e hz;go_wp2_with fail
    go_ret
    exact⟨by rw[HF.out];rfl,HU.out⟩
   ·have e2:(hd T pos i==z)=false:=by rw[hz];exact beq_eq_false_iff_ne.2 (fun h=>e (hd_inj hF hi hy h))
    have HN:Hid (contains m i j=match (nd m y).parent with|some q=>contains m i q|none=>false):=hi_ (by
     rw[HC2.out]
     cases hp:(nd m y).parent with
     |none=>rw[hF.wf.contains_root hp];exact beq_eq_false_iff_ne.2 e
     |some p=>rw[hF.wf.contains_step hp,beq_eq_false_iff_ne.2 e,Bool.false_or])
    have HPh:Hid (∀q,(nd m y).parent=some q->has m q=true):=hi_ (fun q hq=>has_parent hF hy hq);generalize (nd m y).parent=po at *;clear e hz;go_wp2_with fail
    refine Q3.out.mono ?_;rintro e3 w3 ⟨rfl,hb3⟩;have HU3:=bt_ HU hb3;go_wp2_with fail
    go_roundw
    case rel=>exact⟨po,rfl,rfl,HPh,HN,HU3⟩
    case measure=>exact HDz.out
end A
end
section
open Go.RowKit Go.Sort
namespace A
open H G
theorem up_step_facts{T:TMem}{m:Model}{pos:Nat->Nat}{w wr:World}(hT:TreeIs w T m pos)(hU:Below w.heap.size w wr){y:Nat}(hy:has m y=true) :
  T.ptr 1 (hdO T pos (some y))=some ⟨T.g,pos y*10+1,none⟩/\wr.cell? ⟨T.g,pos y*10+5,none⟩=some (.int .i64 (hdO T pos (nd m y).parent))/\(0<=hdO T pos (nd m y).parent/\hdO T pos (nd m y).parent<=1000001000)/\deep T m pos (hdO T pos (nd m y).parent)<deep T m pos (hdO T pos (some y))/\(∀q,(nd m y).parent=some q->has m q=true):=by
 have hF:=hT.fits;have hfew:=hT.mem.few;have hTr:=hT.below hU;refine⟨ptr_hd hfew hF hy 1,?_,?_,?_,fun q hq=>has_parent hF hy hq⟩
 ·rw[(hTr.cell hy (k:=5) (by omega)).1,<-hF.parent y hy];rfl
 ·cases hp:(nd m y).parent with
  |none=>exact⟨Int.le_refl 0,by show(0:Int)<=1000001000;omega⟩
  |some p=>exact⟨by have:=hd_pos (T:=T) (pos:=pos) p;show 0<=hd T pos p;omega,hd_big hfew hF (has_parent hF hy hp)⟩
 ·show _<deep T m pos (hd T pos y)
  rw[deep_hd hF hy]
  cases hp:(nd m y).parent with
  |none=>show deep T m pos 0<_;rw[deep_zero];have:=hF.wf.depth_pos y;omega
  |some p=>
   show deep T m pos (hd T pos p)<_;rw[deep_hd hF (has_parent hF hy hp),hF.wf.depth_step hp];omega
theorem top_(T:TMem)(m:Model)(pos:Nat->Nat)(j:Nat)(w:World)(hT:TreeIs w T m pos)(hj:has m j=true) :
  Calls Tryz.prog 30 #[.pointer (some ⟨T.tb,0,none⟩),.int .i64 (hd T pos j)] w fun e w'=>e=.returned (.int .i64 (hd T pos (top m j)))/\Below w.heap.size w w':=by
 have hF:=hT.fits;have hfew:=hT.mem.few;have HT:=hi_ hT;have QA:=hi_ (fun(z:Int) (h0:0<=z) (h1:z<=1000001000) W (hb:Below w.heap.size w W)=>at_ T z W (hT.below hb).mem (by omega) (by omega));have hbj:=hd_big hfew hF hj;have hpj:=hd_pos (T:=T) (pos:=pos) j;have pJ:=ptr_hd hfew hF hj 1;have Q2:=hi_ (QA.out (hd T pos j) (by omega) hbj w (Below.refl _ w));rw[pJ]at Q2;have HJh:=hi_ hj;clear hT
 go_enter Tryz.func30,Tryz.ntmps30
 go_wp2_with fail
 refine Q2.out.mono ?_;rintro e w2 ⟨rfl,hb2⟩;have HB2:=hi_ hb2;clear hb2 Q2;go_wp2_with fail
 go_loopw [1,5] (fun v1 v5 wr=>∃y:Nat,v1=.int .i64 (hdO T pos (some y))/\v5=.pointer (T.ptr 1 (hdO T pos (some y)))/\Hid (has m y=true)/\Hid (top m y=top m j)/\Hid (Below w.heap.size w wr)) (fun v1 _ _=>deep T m pos (intOfV v1))
 case atStart=>exact⟨j,rfl,by show Value.pointer _=.pointer (T.ptr 1 (hd T pos j));rw[pJ],HJh,hi_ rfl,HB2⟩
 case round=>
  obtain⟨y,rfl,rfl,HH,HC,HU⟩:=hrel;clear HJh HB2 pJ;have hy:=HH.out;obtain⟨e1,k5,hr,hD,hPh⟩:=up_step_facts HT.out HU.out hy;have Q3:=hi_ (QA.out (hdO T pos (nd m y).parent) hr.1 hr.2 wr HU.out);rw[e1];obtain⟨z,hz⟩:∃z,z=hdO T pos (some y):=⟨_,rfl⟩;rw[<-hz]at hD ⊢;have HD:=hi_ hD;clear hr hD e1
  cases hp:(nd m y).parent with
  |none=>
   rw[hp]at k5;have k5':wr.cell? ⟨T.g,pos y*10+5,none⟩=some (.int .i64 0):=k5;have HF:Hid (z=hd T pos (top m j)):=hi_ (by rw[hz,<-HC.out,hF.wf.top_root hp];rfl);clear k5 hz hPh hp;go_wp2_with fail
   go_ret
   exact⟨ret_i64 HF.out,HU.out⟩
  |some p=>
   rw[hp]at k5 Q3 HD;have hph:=hPh p hp;have k5':wr.cell? ⟨T.g,pos y*10+5,none⟩=some (.int .i64 (hd T pos p)):=k5;have hne:¬hd T pos p=0:=by have:=hd_pos (T:=T) (pos:=pos) p;omega
   have hne2:(hd T pos p==0)=false:=beq_eq_false_iff_ne.2 hne;have HN:Hid (top m p=top m j):=hi_ (by rw[<-HC.out,hF.wf.top_step hp]);have HPh:=hi_ hph;clear k5 hz hPh hp hph;go_wp2_with fail
   refine Q3.out.mono ?_;rintro e3 w3 ⟨rfl,hb3⟩;have HU3:=bt_ HU hb3;go_wp2_with fail
   go_roundw
   case rel=>exact⟨p,rfl,rfl,HPh,HN,HU3⟩
   case measure=>exact HD.out
theorem idx_nodup{l:List Nat}(hn:l.Nodup){i c:Nat}(h:l[i]?=some c):l.idxOf c=i:=by
 have h1:=at_idx (List.mem_of_getElem? h);have hi:i<l.length:=by
  rcases Nat.lt_or_ge i l.length with h2|h2
  ·exact h2
  ·rw[List.getElem?_eq_none h2]at h;cases h
 exact((List.getElem?_inj hi hn).1 (h.trans h1.symm)).symm
theorem has_kid{T:TMem}{m:Model}{pos:Nat->Nat}(F:Fits T m pos){p c:Nat}(hp:has m p=true)(hc:c∈(nd m p).kids):has m c=true:=by
 have:=F.wf.gone c p (F.wf.kid p c hc).2;unfold has at hp ⊢;rw[this];exact hp
theorem hdO_range{T:TMem}{m:Model}{pos:Nat->Nat}(hfew:T.slots.length<=1000000)(F:Fits T m pos){o:Option Nat}(ho:∀y,o=some y->has m y=true):0<=hdO T pos o/\hdO T pos o<=1000001000:=by
 cases o with
 |none=>exact⟨Int.le_refl 0,by show(0:Int)<=1000001000;omega⟩
 |some p=>exact⟨by have:=hd_pos (T:=T) (pos:=pos) p;show 0<=hd T pos p;omega,hd_big hfew F (ho p rfl)⟩
theorem kids_few{T:TMem}{m:Model}{pos:Nat->Nat}(hfew:T.slots.length<=1000000)(F:Fits T m pos){p:Nat}(hp:has m p=true):(nd m p).kids.length<=1000000:=by
 have h1:((nd m p).kids.map pos).Nodup:=by
  have h2:=F.wf.nodup p;rw[List.nodup_iff_pairwise_ne]at h2 ⊢;rw[List.pairwise_map];exact List.Pairwise.imp_of_mem (fun ha hb hne e=>hne (F.inj _ _ (has_kid F hp ha) (has_kid F hp hb) e)) h2
 have h3:((nd m p).kids.map pos).length<=(List.range T.slots.length).length:=List.Nodup.length_le_of_subset h1 (fun x hx=>by
  obtain⟨c,hc,rfl⟩:=List.mem_map.1 hx;exact List.mem_range.2 (F.lt c (has_kid F hp hc)))
 rw[List.length_map,List.length_range]at h3;omega
theorem index_some(T:TMem)(m:Model)(pos:Nat->Nat)(j p:Nat)(w:World)(hT:TreeIs w T m pos)(hj:has m j=true)(hp:(nd m j).parent=some p) :
  Calls Tryz.prog 87 #[.pointer (some ⟨T.tb,0,none⟩),.int .i64 (hd T pos j)] w fun e w'=>e=.returned (.int .i64 ((nd m p).kids.idxOf j:Nat))/\Below w.heap.size w w':=by
 have hF:=hT.fits;have hfew:=hT.mem.few;have HT:=hi_ hT;have QA:=hi_ (fun(z:Int) (h0:0<=z) (h1:z<=1000001000) W (hb:Below w.heap.size w W)=>at_ T z W (hT.below hb).mem (by omega) (by omega));have hbj:=hd_big hfew hF hj;have hpj:=hd_pos (T:=T) (pos:=pos) j;have pJ:=ptr_hd hfew hF hj 1;have Q2:=hi_ (QA.out (hd T pos j) (by omega) hbj w (Below.refl _ w));rw[pJ]at Q2;have hph:=has_parent hF hj hp;have hmem:=(hF.wf.par j p hp).2;have hlt:=List.idxOf_lt_length_of_mem hmem;have hkl:=kids_few hfew hF hph;have HK:=hi_ (fun c (hc:c∈(nd m p).kids)=>has_kid hF hph hc);have HPp:=hi_ (fun c (hc:c∈(nd m p).kids)=>(hF.wf.kid p c hc).2);have HNd:=hi_ (hF.wf.nodup p);have HPv:Hid (prevSib m j=prevSib.prevAt2 (nd m p).kids ((nd m p).kids.idxOf j)):=hi_ (by unfold prevSib;rw[hp])
 have HPs:Hid (∀q x,(nd m p).kids[q]?=some x->prevSib m x=prevSib.prevAt2 (nd m p).kids q):=hi_ (fun q x hq=>by
  have hx:=List.mem_of_getElem? hq;unfold prevSib;rw[HPp.out x hx];dsimp only;rw[idx_nodup HNd.out hq])
 generalize (nd m p).kids=l at *;generalize hI:l.idxOf j=I at *;have c5:w.cell? ⟨T.g,pos j*10+5,none⟩=some (.int .i64 (hd T pos p)):=by
  rw[(hT.cell hj (k:=5) (by omega)).1];show some (Value.int .i64 (T.sl (pos j)).parent)=_;rw[hF.parent j hj,hp];rfl
 have c8:w.cell? ⟨T.g,pos j*10+8,none⟩=some (.int .i64 (hdO T pos (prevSib m j))):=by
  rw[(hT.cell hj (k:=8) (by omega)).1];show some (Value.int .i64 (T.sl (pos j)).prev)=_;rw[hF.prev j hj]
 have hne:¬hd T pos p=0:=by have:=hd_pos (T:=T) (pos:=pos) p;omega
 have hne2:(hd T pos p==0)=false:=beq_eq_false_iff_ne.2 hne;rw[HPv.out]at c8;have hlg:=(ownsRow_open hT.mem.row).1;clear hT hp hmem hI
 go_enter Tryz.func87,Tryz.ntmps87
 go_wp2_with fail
 refine Q2.out.mono ?_;rintro e w2 ⟨rfl,hb2⟩;have HB2:=hi_ hb2;have d5:w2.cell? ⟨T.g,pos j*10+5,none⟩=some (.int .i64 (hd T pos p)):=(hb2.cell (p:=⟨T.g,pos j*10+5,none⟩) hlg).trans c5;have d8:w2.cell? ⟨T.g,pos j*10+8,none⟩=some (.int .i64 (hdO T pos (prevSib.prevAt2 l I))):=(hb2.cell (p:=⟨T.g,pos j*10+8,none⟩) hlg).trans c8;clear hb2 Q2 c5 c8;go_wp2_with fail
 go_loopw [6,7] (fun v6 v7 wr=>∃n:Nat,n<=I/\v6=.int .i64 n/\v7=.int .i64 (hdO T pos (prevSib.prevAt2 l (I-n)))/\Hid (Below w.heap.size w wr)) (fun v6 _ _=>I-(intOfV v6).toNat)
 case atStart=>exact⟨0,Nat.zero_le _,rfl,rfl,HB2⟩
 case round=>
  obtain⟨n,hn,rfl,rfl,HU⟩:=hrel;clear HB2 d5 d8 pJ
  by_cases hz:n=I
  ·have e0:hdO T pos (prevSib.prevAt2 l (I-n))=0:=by rw[hz,Nat.sub_self];rfl
   rw[e0];have HF:Hid ((n:Int)=(I:Int)):=hi_ (by rw[hz]);clear hz e0;go_wp2_with fail
   go_ret
   exact⟨ret_i64 HF.out,HU.out⟩
  ·have hq:I-n-1<l.length:=by omega
   have hx:l[I-n-1]?=some l[I-n-1]:=List.getElem?_eq_getElem hq;have hpv:prevSib.prevAt2 l (I-n)=some l[I-n-1]:=by unfold prevSib.prevAt2;rw[if_neg (by omega)];exact hx
   have hps:=HPs.out _ _ hx;have hxk:=HK.out _ (List.mem_of_getElem? hx);rw[hpv];generalize l[I-n-1]=x at *;have hTr:=HT.out.below HU.out;have e1:T.ptr 1 (hdO T pos (some x))=some ⟨T.g,pos x*10+1,none⟩:=ptr_hd hfew hF hxk 1;have k8:wr.cell? ⟨T.g,pos x*10+8,none⟩=some (.int .i64 (hdO T pos (prevSib.prevAt2 l (I-n-1)))):=by
    rw[(hTr.cell hxk (k:=8) (by omega)).1];show some (Value.int .i64 (T.sl (pos x)).prev)=_;rw[hF.prev x hxk,hps]
   have hr:=hdO_range hfew hF (o:=some x) (fun y hy=>by injection hy with hy;rw[<-hy];exact hxk);have Q3:=hi_ (QA.out (hdO T pos (some x)) hr.1 hr.2 wr HU.out);rw[e1]at Q3;have hne3:¬hdO T pos (some x)=0:=by have:=hd_pos (T:=T) (pos:=pos) x;show ¬hd T pos x=0;omega
   have hlg3:=(ownsRow_open hTr.mem.row).1;have wn:IntKind.i64.wrap ((n:Int)+1)=(n:Int)+1:=IntWalk.i64_in _ (by omega);have HS:Hid (I-n-1=I-(n+1)):=hi_ (by omega);generalize hdO T pos (some x)=zx at *;clear hpv hps hx hxk hTr e1 hr hq;go_wp2_with fail
   refine Q3.out.mono ?_;rintro e3 w3 ⟨rfl,hb3⟩;have HU3:=bt_ HU hb3;have m8:w3.cell? ⟨T.g,pos x*10+8,none⟩=some (.int .i64 (hdO T pos (prevSib.prevAt2 l (I-n-1)))):=(hb3.cell (p:=⟨T.g,pos x*10+8,none⟩) hlg3).trans k8;clear k8 hb3;go_wp2_with fail
   go_roundw
   case rel=>exact⟨n+1,by omega,congrArg (Value.int IntKind.i64) (by push_cast;omega),by rw[HS.out],HU3⟩
   case measure=>
    show I-((n:Int)+1).toNat<I-((n:Nat):Int).toNat;omega
def depthO(m:Model)(o:Option Nat):Nat:=match o with|some y=>depth m y|none=>0
theorem depthO_parent{m:Model}(W:WF m)(y:Nat):depth m y=depthO m (nd m y).parent+1:=by
 cases hp:(nd m y).parent with
 |none=>exact W.depth_root hp
 |some p=>exact W.depth_step hp
theorem depth_(T:TMem)(m:Model)(pos:Nat->Nat)(j:Nat)(w:World)(hT:TreeIs w T m pos)(hj:has m j=true) :
  Calls Tryz.prog 115 #[.pointer (some ⟨T.tb,0,none⟩),.int .i64 (hd T pos j)] w fun e w'=>e=.returned (.int .i64 (depth m j:Nat))/\Below w.heap.size w w':=by
 have hF:=hT.fits;have hfew:=hT.mem.few;have HT:=hi_ hT;have hdl:=hF.wf.depth_le j;have QA:=hi_ (fun(z:Int) (h0:0<=z) (h1:z<=1000001000) W (hb:Below w.heap.size w W)=>at_ T z W (hT.below hb).mem (by omega) (by omega));have hbj:=hd_big hfew hF hj;have hpj:=hd_pos (T:=T) (pos:=pos) j;have pJ:=ptr_hd hfew hF hj 1;have Q2:=hi_ (QA.out (hd T pos j) (by omega) hbj w (Below.refl _ w));have HJh:=hi_ hj;clear hT;generalize hpt:T.ptr 1 (hd T pos j)=pt at Q2;have HPT:=hi_ hpt;clear hpt pJ
 go_enter Tryz.func115,Tryz.ntmps115
 go_wp2_with fail
 refine Q2.out.mono ?_;rintro e w2 ⟨rfl,hb2⟩;have HB2:=hi_ hb2;clear hb2 Q2;go_wp2_with fail
 go_loopw [5,6] (fun v5 v6 wr=>∃(k:Nat) (o:Option Nat),v5=.int .i64 (k:Nat)/\v6=.pointer (T.ptr 1 (hdO T pos o))/\Hid (∀y,o=some y->has m y=true)/\Hid (k+depthO m o=depth m j)/\Hid (Below w.heap.size w wr)) (fun v5 _ _=>129-(intOfV v5).toNat)
 case atStart=>
  refine⟨0,some j,rfl,?_,hi_ (fun y hy=>by injection hy with hy;rw[<-hy];exact HJh.out),hi_ (by show 0+depth m j=_;omega),HB2⟩;show _=Value.pointer (T.ptr 1 (hd T pos j));rw[HPT.out]
 case round=>
  obtain⟨k,o,rfl,rfl,HH,HC,HU⟩:=hrel;clear HJh HB2 HPT
  cases o with
  |none=>
   have hkk:depth m j=k:=by have h:k+0=depth m j:=HC.out;omega
   have HKK:=hi_ hkk;have e1:T.ptr 1 (hdO T pos none)=none:=ptr_zero 1;rw[e1];clear hkk e1;go_wp2_with fail
   go_ret
   exact⟨ret_i64 (by rw[HKK.out]),HU.out⟩
  |some y=>
   have hy:=HH.out y rfl;obtain⟨e1,k5,hr,hD,hPh⟩:=up_step_facts HT.out HU.out hy;have Q3:=hi_ (QA.out (hdO T pos (nd m y).parent) hr.1 hr.2 wr HU.out);have hst:=depthO_parent hF.wf y;have hc2:k+depth m y=depth m j:=HC.out;have hk:k<=128:=by omega
   have HN:Hid ((k+1)+depthO m (nd m y).parent=depth m j):=hi_ (by omega);have HP:=hi_ hPh;have HK:Hid (k<=128):=hi_ hk;rw[e1];clear hr hD e1 hst hc2 hPh hy HC;generalize (nd m y).parent=o at *;generalize hz:hdO T pos o=z at *;generalize hpp:T.ptr 1 z=pp at *;have HZ:=hi_ hz;have HPP:=hi_ hpp;clear hz hpp;go_wp2_with fail
   refine Q3.out.mono ?_;rintro e3 w3 ⟨rfl,hb3⟩;have HU3:=bt_ HU hb3;go_wp2_with fail
   go_roundw
   case rel=>
    refine⟨k+1,o,?_,?_,HP,HN,HU3⟩
    ·first|rfl|(congr 1)
    ·rw[HZ.out,HPP.out]
   case measure=>
    show 129-((k:Int)+1).toNat<129-((k:Int)).toNat;have:=HK.out;omega
end A
end
section
open Go.RowKit
namespace N
theorem ib_ge:∀(l:List UInt8) (b:UInt8),decide (0<=Lib.indexByte l b)=l.contains b
 |[],b=>rfl
 |a :: t,b=>by
  have ih:=ib_ge t b;have hg:=Lib.indexByte_ge t b;rw[Lib.indexByte]
  by_cases h:a=b
  ·subst h;simp
  ·have h1:(a==b)=false:=by simpa using h
   have h2:¬b=a:=fun e=>h e.symm;rw[h1]
   by_cases h3:Lib.indexByte t b=-1
   ·have h4:t.contains b=false:=by rw[<-ih,h3];rfl
    simp[h3];refine⟨h2,?_⟩;simpa using h4
   ·have h4:t.contains b=true:=by rw[<-ih];simp;omega
    have h5:(Lib.indexByte t b == -1)=false:=by simpa using h3
    rw[h5];have h6:0<=Lib.indexByte t b+1:=by omega
    simp[h6];exact Or.inr (by simpa using h4)
theorem high_facts(l:List UInt8)(hne:l≠[])(h:128<=(l.getD 0 0).toNat) :
  128<=U.code (U.chunk l)/\U.code (U.chunk l)<=1114111/\1<=U.adv l/\U.adv l<=l.length/\∀j,j<U.adv l->128<=(l.getD j 0).toNat:=by
 have hp:=U.adv_pos l;have hle:=U.adv_le l hne;have b0:=(l.getD 0 0).toNat_lt;have b1:=(l.getD 1 0).toNat_lt;have b2:=(l.getD 2 0).toNat_lt;have b3:=(l.getD 3 0).toNat_lt;rw[U.code_chunk]
 rcases U.sz_cases l with⟨hs,h1⟩|⟨hs,h1⟩|⟨hs,h1⟩|⟨hs,h1⟩|⟨hs,_⟩
 ·unfold U.one at h1;omega
 ·have hc:=U.code_take l (by omega)
  have ha:U.adv l=2:=by unfold U.adv;rw[hs];rfl
  rw[if_neg (by omega),hc,hs,ha];unfold U.two at h1;simp only[Nat.reduceEqDiff,if_false,if_true];refine⟨by omega,by omega,by omega,by omega,fun j hj=>?_⟩;have:j=0\/j=1:=by omega
  rcases this with rfl|rfl<;>omega
 ·have hc:=U.code_take l (by omega)
  have ha:U.adv l=3:=by unfold U.adv;rw[hs];rfl
  rw[if_neg (by omega),hc,hs,ha];unfold U.three U.sec at h1;simp only[Nat.reduceEqDiff,if_false,if_true];refine⟨by omega,by omega,by omega,by omega,fun j hj=>?_⟩;have:j=0\/j=1\/j=2:=by omega
  rcases this with rfl|rfl|rfl<;>omega
 ·have hc:=U.code_take l (by omega)
  have ha:U.adv l=4:=by unfold U.adv;rw[hs];rfl
  rw[if_neg (by omega),hc,hs,ha];unfold U.four U.sec at h1;simp only[Nat.reduceEqDiff,if_false,if_true];refine⟨by omega,by omega,by omega,by omega,fun j hj=>?_⟩;have:j=0\/j=1\/j=2\/j=3:=by omega
  rcases this with rfl|rfl|rfl|rfl<;>omega
 ·have ha:U.adv l=1:=by unfold U.adv;rw[hs];rfl
  rw[if_pos hs,ha];refine⟨by omega,by omega,by omega,by rw[ha]at hle;exact hle,fun j hj=>?_⟩;have:j=0:=by omega
  subst this;exact h
theorem decode_high(s:ByteArray)(pos:Nat)(h:pos<s.size)(hb:128<=(s[pos]'h).toNat) :
  128<=(Utf8.decode s pos).1/\(Utf8.decode s pos).1<=1114111/\1<=(Utf8.decode s pos).2/\pos+(Utf8.decode s pos).2<=s.size/\∀j b,pos<=j->j<pos+(Utf8.decode s pos).2->s.data.toList[j]?=some b->128<=b.toNat:=by
 have hl:(s.data.toList.drop pos).length=s.size-pos:=by simp
 have hne:s.data.toList.drop pos≠[]:=fun e=>by rw[e]at hl;simp at hl;omega
 have h0:(s.data.toList.drop pos).getD 0 0=s[pos]'h:=by
  rw[U.getD_drop,Nat.add_zero,List.getD_eq_getElem?_getD,List.getElem?_eq_getElem (by simpa using h)];rfl
 obtain⟨a1,a2,a3,a4,a5⟩:=high_facts _ hne (by rw[h0];exact hb);rw[U.decode_eq s pos h];rw[hl]at a4;refine⟨a1,a2,a3,by omega,fun j b h1 h2 hj=>?_⟩;have h3:=a5 (j-pos) (by omega);rw[U.getD_drop,show pos+(j-pos)=j by omega,List.getD_eq_getElem?_getD,hj]at h3;exact h3
theorem NoAny.high{s chars:List UInt8}{p d:Nat}(h:Lib.NoAny s chars p)(hc:∀x∈chars,x.toNat<128)(hb:∀j b,p<=j->j<p+d->s[j]?=some b->128<=b.toNat):Lib.NoAny s chars (p+d):=fun j b hj hb2=>by
 rcases Nat.lt_or_ge j p with h1|h1
 ·exact h j b h1 hb2
 ·have h2:=hb j b h1 hj hb2
  cases h3:chars.contains b with
  |false=>rfl
  |true=>have:=hc b (List.contains_iff_mem.1 h3);omega
def RelA(s chars:ByteArray)(w1:World)(v:Value)(wr:World):Prop:=∃pos:Nat,pos<=s.size/\v=.int .i64 0/\wr.heap[w1.heap.size]?=some (.stringIter s pos)/\Below w1.heap.size w1 wr/\Hid (Lib.NoAny s.data.toList chars.data.toList pos)
theorem indexAny_short(s chars:ByteArray)(w:World)(hs:s.size<=8)(ha:Asc chars)(hc2:2<=chars.size)(hcz:chars.size<=100) :
  Calls Tryz.prog 165 #[.string s,.string chars] w fun e w'=>e=.returned (.int .i64 (Lib.indexAny s.data.toList chars.data.toList))/\Below w.heap.size w w':=by
 have hal:∀x∈chars.data.toList,x.toNat<128:=fun x hx=>by
  obtain⟨i,hi,rfl⟩:=List.mem_iff_getElem.1 hx;exact ha i (by simpa using hi)
 have HAl:=hi_ hal;have QU:=hi_ (Tryz.strings_shouldUseASCIISet (s.size:Int) w);have e1:decide ((8:Int)<(s.size:Int))=false:=decide_eq_false (by omega);rw[e1]at QU;have hce2:chars.toList.isEmpty=false:=by
  rw[Lib.toList_data];have:chars.data.toList.length=chars.size:=by simp
  cases h:chars.data.toList with
  |nil=>rw[h]at this;simp at this;omega
  |cons _ _=>rfl
 have hc1:¬(chars.size:Int)=1:=by omega
 have hc1':((chars.size:Int)==1)=false:=beq_eq_false_iff_ne.2 hc1;have QA:=hi_ (fun(c:UInt8) (h:c.toNat<128) W=>(Tryz.strings_IndexRune_ascii chars (c.toNat:Int) W (by omega) (by omega)).mono (R':=fun e w'=>e=.returned (.int .i64 (Lib.indexByte chars.data.toList c))/\w'=W) (fun _ _ h=>⟨by rw[h.1];simp,h.2⟩));have QH:=hi_ (fun(r:Nat) (h1:128<=r) (h2:r<=1114111) W=>indexRune_ge chars r W ha hcz h1 h2);clear e1 hal ha
 go_enter Tryz.func165,Tryz.ntmps165
 go_wp2_with fail
 refine QU.out.mono ?_;rintro e w2 ⟨rfl,rfl⟩;clear QU;go_wp2_with fail
 go_loopw [4] (fun v wr=>RelA s chars w2 v wr) (fun _ wr=>posOf wr w2.heap.size)
 case atStart=>exact⟨0,Nat.zero_le _,rfl,by simpa using World.iter_heap w2 s 0,(Below.refl _ w2).alloc (Nat.le_refl _) _,hi_ (Lib.NoAny.zero _ _)⟩
 case round=>
  obtain⟨pos,hp,rfl,hit,hB,HN⟩:=hrel
  by_cases hlt:pos<s.size
  ·have hget:s.data.toList[pos]?=some (s[pos]'hlt):=by rw[List.getElem?_eq_getElem (by simpa using hlt)];rfl
   by_cases hb:(s[pos]'hlt).toNat<128
   ·have hnx:=fun ty=>Lib.run_next_ascii_at (P:=Tryz.prog) wr w2.heap.size s pos ty hit hlt hb
    have hit2:=Lib.iterAt_heap wr w2.heap.size s pos (pos+1) hit;have hB2:=Lib.below_iterAt hB (k:=w2.heap.size) (Nat.le_refl _) s (pos+1);have HM:Hid (posOf (wr.iterAt w2.heap.size s (pos+1)) w2.heap.size<posOf wr w2.heap.size):=hi_ (by unfold posOf;rw[hit2,hit];show s.size-(pos+1)<s.size-pos;omega);have Q1:=hi_ (QA.out (s[pos]'hlt) hb (wr.iterAt w2.heap.size s (pos+1)));have hge:=ib_ge chars.data.toList (s[pos]'hlt);generalize s[pos]=c at *;generalize hz:Lib.indexByte chars.data.toList c=z at *;have HIt:=hi_ hit2;have HB2:=hi_ hB2;have HGet:=hi_ hget;clear hget hb
    cases hcc:chars.data.toList.contains c with
    |true=>
     rw[hcc]at hge;have g1:(0:Int)<=z:=by simpa using hge
     have HV:=hi_ (Lib.indexAny_hit HN.out HGet.out hcc);clear hge hcc hz hit2 hB2;go_wp2_with fail
     refine Q1.out.mono ?_;rintro e w4 ⟨rfl,rfl⟩;go_wp2_with fail
     go_ret
     exact⟨H.ret_int HV.out.symm,HB2.out⟩
    |false=>
     rw[hcc]at hge;have g1:¬(0:Int)<=z:=by simpa using hge
     have HV:=hi_ (Lib.NoAny.succ HN.out HGet.out hcc);clear hge hcc hz hit2 hB2;go_wp2_with fail
     refine Q1.out.mono ?_;rintro e w4 ⟨rfl,rfl⟩;go_wp2_with fail
     go_roundw
     case rel=>exact⟨pos+1,by omega,rfl,HIt.out,HB2.out,HV⟩
     case measure=>exact HM.out
   ·obtain⟨d1,d2,d3,d4,d5⟩:=decode_high s pos hlt (by omega)
    have hnx:=fun ty=>Lib.run_next_any_at (P:=Tryz.prog) wr w2.heap.size s pos ty hit hlt;generalize Utf8.decode s pos=dec at *;obtain⟨C,D⟩:=dec;have hit2:=Lib.iterAt_heap wr w2.heap.size s pos (pos+D) hit;have hB2:=Lib.below_iterAt hB (k:=w2.heap.size) (Nat.le_refl _) s (pos+D);have d3':1<=D:=d3;have d4':pos+D<=s.size:=d4;have HM:Hid (posOf (wr.iterAt w2.heap.size s (pos+D)) w2.heap.size<posOf wr w2.heap.size):=hi_ (by unfold posOf;rw[hit2,hit];show s.size-(pos+D)<s.size-pos;omega);have Q1:=hi_ (QH.out C d1 d2 (wr.iterAt w2.heap.size s (pos+D)));have HV:Hid (Lib.NoAny s.data.toList chars.data.toList (pos+D)):=hi_ (NoAny.high HN.out HAl.out d5);have HIt:=hi_ hit2;have HB2:=hi_ hB2;have hlt2:w2.heap.size<(wr.iterAt w2.heap.size s (pos+D)).heap.size:=(Array.getElem?_eq_some_iff.1 hit2).1
    have hnx':∀ty,(Instr.next (.pointer (some ⟨w2.heap.size,0,none⟩)) true ty).run Tryz.prog wr=.ok (.tuple #[.bool true,.int .i64 (pos:Nat),.int .i32 (C:Nat)]) (wr.iterAt w2.heap.size s (pos+D)):=hnx;clear hget hb hnx d1 d2 d5 hit2 hB2 d3 d4;generalize wr.iterAt w2.heap.size s (pos+D)=wi at *;go_wp2_with fail
    refine Q1.out.mono ?_;rintro e w4 ⟨rfl,hb4⟩;have HIt4:Hid (w4.heap[w2.heap.size]?=some (.stringIter s (pos+D))):=hi_ ((hb4.block _ hlt2).trans HIt.out);have HM4:Hid (posOf w4 w2.heap.size<posOf wr w2.heap.size):=hi_ (by have h:=HM.out;unfold posOf at h ⊢;rw[HIt4.out];rw[HIt.out]at h;exact h);have HB4:=hi_ (HB2.out.trans (hb4.mono (Nat.le_of_lt hlt2)));go_wp2_with fail
    go_roundw
    case rel=>exact⟨pos+D,d4',rfl,HIt4.out,HB4.out,HV⟩
    case measure=>exact HM4.out
  ·have hnx:=fun ty=>Lib.run_next_end_at (P:=Tryz.prog) wr w2.heap.size s pos ty hit hlt
   have hpe:pos=s.size:=by omega
   have HV:Hid (Lib.indexAny s.data.toList chars.data.toList=-1):=hi_ (Lib.indexAny_none (by have h:=HN.out;rw[hpe]at h;simpa using h));clear hpe;go_wp2_with fail
   go_ret
   exact⟨H.ret_int HV.out.symm,hB⟩
end N
end
section
open Go.RowKit Go.Sort
namespace A
open H G
theorem infoInt:(Tryz.prog.info? 3).map (fun i=>(i.zero,i.size,i.bytes))=some (some (.int .i64 0),1,8):=by kernel_rfl
def hints(T:TMem)(pos:Nat->Nat)(l:List Nat):List Value:=l.map fun c=>.int .i64 (hd T pos c)
def OwnH(T:TMem)(pos:Nat->Nat)(base:Nat)(w:World)(v:Value)(l:List Nat):Prop:=w.ownsRow base 3 1 v l.length (hints T pos l)
theorem nextSib_at{m:Model}(W:WF m){p q x:Nat}(hx:(nd m p).kids[q]?=some x):nextSib m x=(nd m p).kids[q+1]?:=by
 have h1:=List.mem_of_getElem? hx;unfold nextSib;rw[(W.kid p x h1).2];dsimp only;rw[idx_nodup (W.nodup p) hx]
theorem kids_(T:TMem)(m:Model)(pos:Nat->Nat)(p:Nat)(w:World)(hT:TreeIs w T m pos)(hp:has m p=true) :
  Calls Tryz.prog 94 #[.pointer (some ⟨T.tb,0,none⟩),.int .i64 (hd T pos p)] w fun e w'=>∃v,e=.returned v/\Below w.heap.size w w'/\OwnH T pos w.heap.size w' v (nd m p).kids:=by
 have hF:=hT.fits;have hfew:=hT.mem.few;have HT:=hi_ hT;have QA:=hi_ (fun(z:Int) (h0:0<=z) (h1:z<=1000001000) W (hb:Below w.heap.size w W)=>at_ T z W (hT.below hb).mem (by omega) (by omega));have hbj:=hd_big hfew hF hp;have hpj:=hd_pos (T:=T) (pos:=pos) p;have pJ:=ptr_hd hfew hF hp 1;have Q2:=hi_ (QA.out (hd T pos p) (by omega) hbj w (Below.refl _ w));rw[pJ]at Q2;have hkl:=kids_few hfew hF hp;have HK:=hi_ (fun c (hc:c∈(nd m p).kids)=>has_kid hF hp hc);have HNs:=hi_ (fun q x (hx:(nd m p).kids[q]?=some x)=>nextSib_at hF.wf hx);have c6:w.cell? ⟨T.g,pos p*10+6,none⟩=some (.int .i64 (hdO T pos (nd m p).kids[0]?)):=by
  rw[(hT.cell hp (k:=6) (by omega)).1];show some (Value.int .i64 (T.sl (pos p)).first)=_;rw[hF.first p hp,List.head?_eq_getElem?]
 generalize (nd m p).kids=l at *;have hlg:=(ownsRow_open hT.mem.row).1;obtain⟨i0,hi0,hz0,hz1,hz2⟩:=info_parts infoInt;clear hT
 go_enter Tryz.func94,Tryz.ntmps94
 go_wp2_with fail
 refine Q2.out.mono ?_;rintro e w2 ⟨rfl,hb2⟩;have HB2:=hi_ hb2;have d6:w2.cell? ⟨T.g,pos p*10+6,none⟩=some (.int .i64 (hdO T pos l[0]?)):=(hb2.cell (p:=⟨T.g,pos p*10+6,none⟩) hlg).trans c6;have HO0:Hid (OwnH T pos w.heap.size w2 (.slice none 0 0) (l.take 0)):=hi_ (World.ownsRow_nil _ _ _ _);clear hb2 Q2 c6;go_wp2_with fail
 go_loopw [6,7] (fun v6 v7 wr=>∃n:Nat,n<=l.length/\v7=.int .i64 (hdO T pos l[n]?)/\Hid (OwnH T pos w.heap.size wr v6 (l.take n))/\Hid (Below w.heap.size w wr)) (fun v6 _ _=>l.length-(match v6 with | .slice _ n _=>n|_=>0))
 case atStart=>exact⟨0,Nat.zero_le _,rfl,HO0,HB2⟩
 case round=>
  obtain⟨n,hn,rfl,HO,HU⟩:=hrel;clear HB2 d6 pJ HO0;have hform:∃ao cap,u6=.slice ao n cap:=by
   have h1:=HO.out;unfold OwnH at h1;rw[List.length_take,Nat.min_eq_left hn]at h1
   rcases h1.2 with⟨h1,h2⟩|⟨g,cap,cur,h1,_⟩
   ·exact⟨none,0,by rw[h1,h2]⟩
   ·exact⟨_,cap,h1⟩
  obtain⟨ao,cap,hv⟩:=hform;subst hv
  by_cases hz:n=l.length
  ·have e0:hdO T pos l[n]?=0:=by rw[hz,List.getElem?_eq_none (Nat.le_refl _)];rfl
   rw[e0];have HF:Hid (OwnH T pos w.heap.size wr (.slice ao n cap) l):=hi_ (by
    have h:=HO.out
    rwa [List.take_of_length_le (by omega)]at h)
   clear hz e0 HO;go_wp2_with fail
   go_ret
   exact⟨_,rfl,HU.out,HF.out⟩
  ·have hq:n<l.length:=by omega
   have hx:l[n]?=some l[n]:=List.getElem?_eq_getElem hq;have hns:=HNs.out _ _ hx;have hxk:=HK.out _ (List.mem_of_getElem? hx);have htk:l.take (n+1)=l.take n++[l[n]]:=by rw[List.take_add_one,hx];rfl
   rw[hx];generalize l[n]=x at *;have hTr:=HT.out.below HU.out;have e1:T.ptr 1 (hdO T pos (some x))=some ⟨T.g,pos x*10+1,none⟩:=ptr_hd hfew hF hxk 1;have hr:=hdO_range hfew hF (o:=some x) (fun y hy=>by injection hy with hy;rw[<-hy];exact hxk);have hne3:¬hdO T pos (some x)=0:=by have:=hd_pos (T:=T) (pos:=pos) x;show ¬hd T pos x=0;omega
   have HOr:=hi_ (show wr.ownsRow w.heap.size 3 1 (.slice ao n cap) n (hints T pos (l.take n)) by
    have h:=HO.out;unfold OwnH at h
    rwa [List.length_take,Nat.min_eq_left hn]at h)
   have HZ:Hid (hdO T pos (some x)=hd T pos x):=hi_ rfl;have HTk:=hi_ htk;have hU:=HU.out.size;have hlgr:=(ownsRow_open hTr.mem.row).1;generalize hzx:hdO T pos (some x)=zx at *;have k9:wr.cell? ⟨T.g,pos x*10+9,none⟩=some (.int .i64 (hdO T pos l[n+1]?)):=by
    rw[(hTr.cell hxk (k:=9) (by omega)).1];show some (Value.int .i64 (T.sl (pos x)).next)=_;rw[hF.next x hxk,hns]
   clear hx hns htk hzx HO;go_wp2_with (at_builtin;refine wpList_append_lies _ rfl _ _ 39 rfl w.heap.size 3 i0 _ 1 8 Tryz.underlying39 hi0 hz0 hz1 hz2 rfl (by decide) (.slice ao n cap) n (hints T pos (l.take n)) rfl (HOr.out.alloc _) ⟨wr.heap.size,0,none⟩ 1 1 [.int .i64 zx] rfl rfl ?c1 ?c2 ?c3 ?c4 ?c5 ?c6 (wr.heap.size+1) ?c7 ?_)
   case c1=>exact World.news_of_block (heap_alloc_new wr (.cells #[.int .i64 zx] 3))
   case c2=>simp[Value.oneCell']
   case c3=>omega
   case c4=>unfold maxLen;omega
   case c5=>omega
   case c6=>simp;omega
   case c7=>simp
   intro gg cap2 w5 hown5 hgrow hat5 hlt5;have HO5:Hid (OwnH T pos w.heap.size w5 (.slice (some ⟨gg,0,none⟩) (n+1) cap2) (l.take (n+1))):=hi_ (by
    unfold OwnH;rw[HTk.out,List.length_append,List.length_take,Nat.min_eq_left hn];unfold hints at *;rw[List.map_append];have e':([x].map fun c=>Value.int .i64 (hd T pos c))=[.int .i64 zx]:=
     congrArg (fun z=>[Value.int .i64 z]) HZ.out.symm
    rw[e'];exact hown5)
   have HB5:Hid (Below w.heap.size w w5):=hi_ ((HU.out.alloc hU _).grown hgrow (by simp;omega) (fun q hq=>(HOr.out.lt q hq).1));have hTr5:=HT.out.below HB5.out;have k95:w5.cell? ⟨T.g,pos x*10+9,none⟩=some (.int .i64 (hdO T pos l[n+1]?)):=by
    rw[(hTr5.cell hxk (k:=9) (by omega)).1];have:=(hTr.cell hxk (k:=9) (by omega)).1;rw[k9]at this;exact this.symm
   have Q3:=hi_ (QA.out zx hr.1 hr.2 w5 HB5.out);rw[e1]at Q3;have hlg5:=(ownsRow_open hTr5.mem.row).1;clear k9 hTr hTr5 hown5 hgrow hat5 HOr e1;go_wp2_with fail
   refine Q3.out.mono ?_;rintro e3 w6 ⟨rfl,hb3⟩;have HU6:=bt_ HB5 hb3;have m9:w6.cell? ⟨T.g,pos x*10+9,none⟩=some (.int .i64 (hdO T pos l[n+1]?)):=(hb3.cell (p:=⟨T.g,pos x*10+9,none⟩) hlg5).trans k95;have HO6:Hid (OwnH T pos w.heap.size w6 (.slice (some ⟨gg,0,none⟩) (n+1) cap2) (l.take (n+1))):=hi_ (by
    refine⟨HO5.out.1,?_⟩
    rcases HO5.out.2 with hn|⟨g,cap,cur,hv,hb,hgg,rest⟩
    ·exact Or.inl hn
    ·exact Or.inr ⟨g,cap,cur,hv,hb,(hb3.block g (lt_of_block hgg)).trans hgg,rest⟩)
   clear k95 hb3 HO5 HB5;go_wp2_with fail
   go_roundw
   case rel=>exact⟨n+1,by omega,rfl,HO6,HU6⟩
   case measure=>
    show l.length-(n+1)<l.length-n;omega
end A
end
section
open Go.RowKit Go.Sort
namespace A
open H G
def TMem.modS(T:TMem)(s:Nat)(f:Slot->Slot):TMem:={ T with slots:=T.slots.modify s f }
theorem modS_len(T:TMem)(s:Nat)(f:Slot->Slot):(T.modS s f).slots.length=T.slots.length:=by unfold TMem.modS;simp
theorem sl_modS{T:TMem}{s:Nat}{f:Slot->Slot}(h:s<T.slots.length)(t:Nat):(T.modS s f).sl t=if t=s then f (T.sl t)else T.sl t:=by
 unfold TMem.sl TMem.modS
 by_cases hj:t=s
 ·subst hj
  simp[List.getD,List.getElem?_modify,h]
 ·have h2:¬s=t:=fun e=>hj e.symm
  simp[List.getD,List.getElem?_modify,h2,hj]
theorem hdO_same{T T':TMem}{pos:Nat->Nat}(h1:T'.bs=T.bs)(h2:T'.st=T.st)(o:Option Nat):hdO T' pos o=hdO T pos o:=by
 cases o with
 |none=>rfl
 |some i=>unfold hdO hd;rw[h1,h2]
def Sib(T:TMem)(pos:Nat->Nat)(l:List Nat):Prop:=∀q x,l[q]?=some x->(T.sl (pos x)).prev=hdO T pos (prevSib.prevAt2 l q)/\(T.sl (pos x)).next=hdO T pos l[q+1]?
theorem prevSib_at{m:Model}(W:WF m){p q x:Nat}(hx:(nd m p).kids[q]?=some x):prevSib m x=prevSib.prevAt2 (nd m p).kids q:=by
 have h1:=List.mem_of_getElem? hx;unfold prevSib;rw[(W.kid p x h1).2];dsimp only;rw[idx_nodup (W.nodup p) hx]
theorem nextSib_at2{m:Model}(W:WF m){p q x:Nat}(hx:(nd m p).kids[q]?=some x):nextSib m x=(nd m p).kids[q+1]?:=by
 have h1:=List.mem_of_getElem? hx;unfold nextSib;rw[(W.kid p x h1).2];dsimp only;rw[idx_nodup (W.nodup p) hx]
section
variable {T:TMem} {m:Model} {pos:Nat->Nat}
theorem Fits.sib(F:Fits T m pos){p:Nat}(hp:has m p=true):Sib T pos (nd m p).kids:=by
 intro q x hx;have hk:=has_kid F hp (List.mem_of_getElem? hx);rw[F.prev x hk,F.next x hk,prevSib_at F.wf hx,nextSib_at2 F.wf hx];exact⟨rfl,rfl⟩
theorem Fits.lone(F:Fits T m pos){i:Nat}(hi:has m i=true)(hp:(nd m i).parent=none):(T.sl (pos i)).prev=0/\(T.sl (pos i)).next=0:=by
 rw[F.prev i hi,F.next i hi];unfold prevSib nextSib;rw[hp];exact⟨rfl,rfl⟩
theorem prev_next_of(W:WF m)(hup:∀i p,has m i=true->(nd m i).parent=some p->has m p=true)(h1:∀p,has m p=true->Sib T pos (nd m p).kids)(h2:∀i,has m i=true->(nd m i).parent=none->(T.sl (pos i)).prev=0/\(T.sl (pos i)).next=0) :
  (∀i,has m i=true->(T.sl (pos i)).prev=hdO T pos (prevSib m i))/\(∀i,has m i=true->(T.sl (pos i)).next=hdO T pos (nextSib m i)):=by
 have h3:∀i,has m i=true->(T.sl (pos i)).prev=hdO T pos (prevSib m i)/\(T.sl (pos i)).next=hdO T pos (nextSib m i):=by
  intro i hi
  cases hp:(nd m i).parent with
  |none=>
   have:=h2 i hi hp;unfold prevSib nextSib;rw[hp];exact this
  |some p=>
   have hm:=(W.par i p hp).2;have hx:=at_idx hm;rw[prevSib_at W hx,nextSib_at2 W hx];exact h1 p (hup i p hi hp) _ _ hx
 exact⟨fun i hi=>(h3 i hi).1,fun i hi=>(h3 i hi).2⟩
theorem has_up(W:WF m){i p:Nat}(hi:has m i=true)(hp:(nd m i).parent=some p):has m p=true:=by
 have:=W.gone i p hp;unfold has at hi ⊢;rw[<-this];exact hi
theorem prevAt2_app{A B:List Nat}{q:Nat}(h:q<=A.length):prevSib.prevAt2 (A++B) q=prevSib.prevAt2 A q:=by
 unfold prevSib.prevAt2
 by_cases h0:q=0
 ·rw[if_pos h0,if_pos h0]
 ·rw[if_neg h0,if_neg h0,List.getElem?_append_left (by omega)]
theorem prevAt2_len(A:List Nat):prevSib.prevAt2 A A.length=A.getLast?:=by
 unfold prevSib.prevAt2
 by_cases h0:A.length=0
 ·rw[if_pos h0,List.length_eq_zero_iff.1 h0];rfl
 ·rw[if_neg h0,List.getLast?_eq_getElem?]
structure Cutted(T T':TMem)(m:Model)(pos:Nat->Nat)(h p:Nat):Prop where
 bs:T'.bs=T.bs
 st:T'.st=T.st
 len:T'.slots.length=T.slots.length
 frees:T'.frees=T.frees
 live:T'.live=T.live
 root:T'.root=T.root
 used:∀s,(T'.sl s).used=(T.sl s).used
 same:∀i,has m i=true->(T'.sl (pos i)).kind=(T.sl (pos i)).kind/\(T'.sl (pos i)).name=(T.sl (pos i)).name/\(T'.sl (pos i)).al=(T.sl (pos i)).al/\(T'.sl (pos i)).data=(T.sl (pos i)).data
 parent:∀i,has m i=true->(T'.sl (pos i)).parent=if i=h then 0 else(T.sl (pos i)).parent
 first:∀i,has m i=true->(T'.sl (pos i)).first=if i=p/\prevSib m h=none then hdO T pos (nextSib m h) else(T.sl (pos i)).first
 last:∀i,has m i=true->(T'.sl (pos i)).last=if i=p/\nextSib m h=none then hdO T pos (prevSib m h) else(T.sl (pos i)).last
 prev:∀i,has m i=true->(T'.sl (pos i)).prev=if i=h then 0 else if nextSib m h=some i then hdO T pos (prevSib m h) else(T.sl (pos i)).prev
 next:∀i,has m i=true->(T'.sl (pos i)).next=if i=h then 0 else if prevSib m h=some i then hdO T pos (nextSib m h) else(T.sl (pos i)).next
theorem has_cut{h p:Nat}(h1:h<m.length)(h2:p<m.length)(i:Nat):has (cut m h p) i=has m i:=by
 unfold has;rw[nd_cut h1 h2]
theorem Fits.cut{T':TMem}{h p:Nat}(F:Fits T m pos)(hh:has m h=true)(hp:(nd m h).parent=some p)(C:Cutted T T' m pos h p):Fits T' (G.cut m h p) pos:=by
 have W:=F.wf;have hhl:=has_lt hh;have hph:=has_up W hh hp;have hpl:=has_lt hph;have hm:=(W.par h p hp).2;have hd_:=W.nodup p;have e0:∀o,hdO T' pos o=hdO T pos o:=hdO_same C.bs C.st;have hhas:=has_cut (m:=m) hhl hpl;obtain⟨A,B,hAB⟩:=List.append_of_mem hm;have hnA:h∉A:=fun hA=>by
  rw[hAB]at hd_;have:=(List.nodup_append.1 hd_).2.2 h hA h (by simp);exact this rfl
 have her:(nd m p).kids.erase h=A++B:=by
  rw[hAB,List.erase_append_right _ hnA,List.erase_cons_head]
 have hat:(nd m p).kids[A.length]?=some h:=by rw[hAB];simp
 have hprev:prevSib m h=A.getLast?:=by rw[prevSib_at W hat,hAB,prevAt2_app (Nat.le_refl _),prevAt2_len]
 have hnext:nextSib m h=B.head?:=by rw[nextSib_at2 W hat,hAB,List.getElem?_append_right (by omega),List.head?_eq_getElem?];simp
 have hWc:=W.cut hp;have hkids:∀j,(nd (G.cut m h p) j).kids=if j=p then A++B else(nd m j).kids:=by
  intro j;rw[nd_cut hhl hpl];dsimp only
  by_cases e:j=p
  ·rw[if_pos e,if_pos e,e,her]
  ·rw[if_neg e,if_neg e]
 have hpar:∀j,(nd (G.cut m h p) j).parent=if j=h then none else(nd m j).parent:=by
  intro j;rw[nd_cut hhl hpl]
 have hsib:∀j,has (G.cut m h p) j=true->Sib T' pos (nd (G.cut m h p) j).kids:=by
  intro j hj;rw[hhas]at hj;have hS:=F.sib hj;intro q x hx;rw[e0,e0]
  by_cases e:j=p
  ·subst e
   rw[hkids,if_pos rfl]at hx ⊢;have hxk:x∈(nd m j).kids:=by
    rw[hAB]
    rcases List.mem_append.1 (List.mem_of_getElem? hx)with h1|h1
    ·exact List.mem_append_left _ h1
    ·exact List.mem_append_right _ (List.mem_cons_of_mem _ h1)
   have hxh:=has_kid F hj hxk;have hxne:x≠h:=by
    rintro rfl
    rcases List.mem_append.1 (List.mem_of_getElem? hx)with h1|h1
    ·exact hnA h1
    ·rw[hAB]at hd_
     have:=(List.nodup_append.1 hd_).2.1;rw[List.nodup_cons]at this;exact this.1 h1
   rw[C.prev x hxh,C.next x hxh,if_neg hxne,if_neg hxne,hprev,hnext];rw[hAB]at hS hd_
   rcases Nat.lt_or_ge q A.length with hq|hq
   ·have hxA:A[q]?=some x:=by rwa [List.getElem?_append_left hq]at hx
    have hx0:(A++h :: B)[q]?=some x:=by rw[List.getElem?_append_left hq];exact hxA
    obtain⟨s1,s2⟩:=hS q x hx0;have hxB:B.head?≠some x:=by
     intro hb;have hb2:x∈B:=List.mem_of_mem_head? hb;exact(List.nodup_append.1 hd_).2.2 x (List.mem_of_getElem? hxA) x (List.mem_cons_of_mem _ hb2) rfl
    rw[if_neg hxB,s1,s2];refine⟨by rw[prevAt2_app (Nat.le_of_lt hq),prevAt2_app (Nat.le_of_lt hq)],?_⟩
    by_cases hl:q+1=A.length
    ·have:A.getLast?=some x:=by rw[List.getLast?_eq_getElem?,<-hxA];congr 1;omega
     rw[if_pos this,List.getElem?_append_right (by omega),List.head?_eq_getElem?]
     congr 2;omega
    ·have:¬A.getLast?=some x:=by
      intro e2;rw[List.getLast?_eq_getElem?]at e2;have hAn:A.Nodup:=(List.nodup_append.1 hd_).1;have h3:=(List.getElem?_inj hq hAn).1 (hxA.trans e2.symm);omega
     rw[if_neg this,List.getElem?_append_left (by omega),List.getElem?_append_left (by omega)]
   ·have hxB:B[q-A.length]?=some x:=by rwa [List.getElem?_append_right hq]at hx
    have hx0:(A++h :: B)[q+1]?=some x:=by
     rw[List.getElem?_append_right (by omega),show q+1-A.length=(q-A.length)+1 by omega,List.getElem?_cons_succ];exact hxB
    obtain⟨s1,s2⟩:=hS _ x hx0;have hBn:B.Nodup:=(List.nodup_cons.1 (List.nodup_append.1 hd_).2.1).2;have hxA:¬A.getLast?=some x:=by
     intro hb;have hb2:x∈A:=List.mem_of_mem_getLast? hb;exact(List.nodup_append.1 hd_).2.2 x hb2 x (List.mem_cons_of_mem _ (List.mem_of_getElem? hxB)) rfl
    rw[if_neg hxA,s1,s2];constructor
    ·by_cases h0:q=A.length
     ·have hb:B.head?=some x:=by rw[List.head?_eq_getElem?,<-hxB,h0,Nat.sub_self]
      rw[if_pos hb,h0,prevAt2_app (Nat.le_refl _),prevAt2_len]
     ·have hqB:q-A.length<B.length:=by
       rcases Nat.lt_or_ge (q-A.length) B.length with h1|h1
       ·exact h1
       ·rw[List.getElem?_eq_none h1]at hxB;cases hxB
      have hb:¬B.head?=some x:=by
       intro e2;rw[List.head?_eq_getElem?]at e2;have h3:=(List.getElem?_inj (by omega) hBn).1 (e2.trans hxB.symm);omega
      rw[if_neg hb]
      congr 1
      unfold prevSib.prevAt2;rw[if_neg (by omega),if_neg (by omega),List.getElem?_append_right (by omega),List.getElem?_append_right (by omega),show q+1-1-A.length=(q-1-A.length)+1 by omega,List.getElem?_cons_succ]
    ·congr 1
     rw[List.getElem?_append_right (by omega),List.getElem?_append_right (by omega),show q+1+1-A.length=(q+1-A.length)+1 by omega,List.getElem?_cons_succ]
  ·rw[hkids,if_neg e]at hx ⊢
   have hxk:=List.mem_of_getElem? hx;have hxh:=has_kid F hj hxk;have hxp:=(W.kid j x hxk).2;have hxne:x≠h:=by
    rintro rfl;rw[hp]at hxp;injection hxp with hxp
    exact e hxp.symm
   have hno:∀y,y∈(nd m p).kids->y≠x:=by
    rintro y hy rfl;have:=(W.kid p y hy).2;rw[hxp]at this;injection this with this
    exact e this
   have n1:¬nextSib m h=some x:=fun e2=>hno x (by rw[hnext]at e2;rw[hAB];exact List.mem_append_right _ (List.mem_cons_of_mem _ (List.mem_of_mem_head? e2))) rfl;have n2:¬prevSib m h=some x:=fun e2=>hno x (by rw[hprev]at e2;rw[hAB];exact List.mem_append_left _ (List.mem_of_mem_getLast? e2)) rfl;rw[C.prev x hxh,C.next x hxh,if_neg hxne,if_neg hxne,if_neg n1,if_neg n2];exact hS q x hx
 have hlone:∀i,has (G.cut m h p) i=true->(nd (G.cut m h p) i).parent=none->(T'.sl (pos i)).prev=0/\(T'.sl (pos i)).next=0:=by
  intro i hi hn;rw[hhas]at hi;rw[hpar]at hn;rw[C.prev i hi,C.next i hi]
  by_cases e:i=h
  ·rw[if_pos e,if_pos e];exact⟨rfl,rfl⟩
  ·rw[if_neg e]at hn
   rw[if_neg e,if_neg e];have hnk:∀y,y∈(nd m p).kids->y≠i:=by
    rintro y hy rfl;have:=(W.kid p y hy).2;rw[hn]at this;cases this
   have n1:¬nextSib m h=some i:=fun e2=>hnk i (by rw[hnext]at e2;rw[hAB];exact List.mem_append_right _ (List.mem_cons_of_mem _ (List.mem_of_mem_head? e2))) rfl;have n2:¬prevSib m h=some i:=fun e2=>hnk i (by rw[hprev]at e2;rw[hAB];exact List.mem_append_left _ (List.mem_of_mem_getLast? e2)) rfl;rw[if_neg n1,if_neg n2];exact F.lone hi hn
 have hpn:=prev_next_of (T:=T') (pos:=pos) hWc (fun i q hi hq=>has_up hWc hi hq) hsib hlone;refine { wf:=hWc,lt:=?_,used:=?_,kind:=?_,name:=?_,attrs:=?_,data:=?_,parent:=?_,first:=?_,last:=?_,prev:=hpn.1,next:=hpn.2,inj:=?_,onto:=?_,frees:=?_,live:=?_,root:=?_ }
 ·intro i hi;rw[C.len];exact F.lt i (by rwa [hhas]at hi)
 ·intro i hi;rw[C.used];exact F.used i (by rwa [hhas]at hi)
 ·intro i hi;rw[hhas]at hi;rw[(C.same i hi).1,F.kind i hi,nd_cut hhl hpl]
 ·intro i hi;rw[hhas]at hi;rw[(C.same i hi).2.1,F.name i hi,nd_cut hhl hpl]
 ·intro i hi;rw[hhas]at hi;rw[(C.same i hi).2.2.1,F.attrs i hi,nd_cut hhl hpl]
 ·intro i hi;rw[hhas]at hi;rw[(C.same i hi).2.2.2,F.data i hi,nd_cut hhl hpl]
 ·intro i hi;rw[hhas]at hi
  rw[e0,C.parent i hi,hpar]
  by_cases e:i=h
  ·rw[if_pos e,if_pos e];rfl
  ·rw[if_neg e,if_neg e];exact F.parent i hi
 ·intro i hi;rw[hhas]at hi
  rw[e0,C.first i hi,hkids,hprev,hnext]
  by_cases e:i=p
  ·subst e
   rw[if_pos rfl]
   cases A with
   |nil=>rw[if_pos ⟨rfl,rfl⟩];rfl
   |cons a A'=>rw[if_neg (by simp),F.first i hi,hAB];rfl
  ·rw[if_neg e,if_neg (fun h=>e h.1)];exact F.first i hi
 ·intro i hi;rw[hhas]at hi
  rw[e0,C.last i hi,hkids,hprev,hnext]
  by_cases e:i=p
  ·subst e
   rw[if_pos rfl]
   cases B with
   |nil=>rw[if_pos ⟨rfl,rfl⟩,List.append_nil]
   |cons b B'=>
    rw[if_neg (by simp),F.last i hi,hAB,List.getLast?_append,List.getLast?_append]
    congr 1
  ·rw[if_neg e,if_neg (fun h=>e h.1)];exact F.last i hi
 ·intro i j hi hj;rw[hhas]at hi hj;exact F.inj i j hi hj
 ·intro s hs hu
  rw[C.len]at hs;rw[C.used]at hu;obtain⟨i,hi,hp⟩:=F.onto s hs hu;exact⟨i,by rw[hhas];exact hi,hp⟩
 ·rw[C.frees,C.len]
  exact⟨F.frees.1,fun s hs=>by rw[C.used];exact F.frees.2 s hs⟩
 ·rw[C.live,F.live,show(G.cut m h p).length=m.length by unfold G.cut;simp]
  congr 2
  exact List.filter_congr (fun x _=>(hhas x).symm)
 ·rw[C.root,F.root]
  unfold hd;rw[C.bs,C.st]
end
end A
end
section
open Go.RowKit Go.Sort
namespace R
open H G A
theorem has_out{m:Model}{i:Nat}(h:m.length<=i):has m i=false:=by unfold has;rw[nd_out h];rfl
theorem mHas(M:MMem)(i:Nat)(w:World)(h:ModelMem w M):Calls Tryz.prog 14 #[.pointer (some ⟨M.mb,0,none⟩),.int .i64 i] w fun e w'=>e=.returned (.bool (has M.m i))/\w=w':=by
 obtain⟨c0,l0,l1⟩:=h.top
 by_cases hi:i<M.nodes.length
 ·obtain⟨_,_,_,_,_,_,k6⟩:=h.cell hi
  have n1:(i:Int)<(M.nodes.length:Int):=by omega
  have n0:(0:Int)<=(i:Int):=by omega
  have HR:Hid (has M.m i = !(nd M.m i).gone):=hi_ rfl;generalize has M.m i=R at *;generalize (nd M.m i).gone=gn at *;clear h hi
  go_enter Tryz.func14,Tryz.ntmps14
  go_wp2_with fail
  go_ret
  exact⟨ret_bool (by rw[HR.out]),rfl⟩
 ·have HR:Hid (has M.m i=false):=hi_ (has_out (by rw[M.m_len];omega))
  have n1:¬(i:Int)<(M.nodes.length:Int):=by omega
  have n0:(0:Int)<=(i:Int):=by omega
  generalize has M.m i=R at *;clear h hi
  go_enter Tryz.func14,Tryz.ntmps14
  go_wp2_with fail
  go_ret
  exact⟨ret_bool (by rw[HR.out]),rfl⟩
theorem mTop(M:MMem)(i:Nat)(w:World)(h:ModelMem w M)(W:WF M.m)(hi:i<M.nodes.length):Calls Tryz.prog 15 #[.pointer (some ⟨M.mb,0,none⟩),.int .i64 i] w fun e w'=>e=.returned (.int .i64 (top M.m i:Nat))/\w=w':=by
 obtain⟨c0,l0,l1⟩:=h.top;have HP:=hi_ (fun y (hy:y<M.nodes.length)=>(h.cell hy).2.2.2.2.1);have hlen:=M.m_len;have hfew:=h.few;have HT:Hid (top M.m i=top M.m i):=hi_ rfl;generalize ht:top M.m i=t at *;have HTt:=hi_ ht;have HI:=hi_ hi;clear h ht hi HT
 go_enter Tryz.func15,Tryz.ntmps15
 go_wp2_with fail
 go_loopw [1] (fun v1 wr=>∃y:Nat,v1=.int .i64 (y:Nat)/\wr=w/\Hid (y<M.nodes.length)/\Hid (top M.m y=t)) (fun v1 _=>depth M.m (intOfV v1).toNat)
 case atStart=>exact⟨i,rfl,rfl,HI,HTt⟩
 case round=>
  obtain⟨y,rfl,rfl,HY,HE⟩:=hrel;have k4:=HP.out y HY.out;have hy:=HY.out;have n1:(y:Int)<(M.nodes.length:Int):=by omega
  clear HTt HI
  cases hp:(nd M.m y).parent with
  |none=>
   rw[hp]at k4;have k4':wr.cell? ⟨M.g,y*7+4,none⟩=some (.int .i64 (-1)):=k4;have HF:=hi_ (show y=t by rw[<-HE.out,W.top_root hp]);clear k4 hp hy;go_wp2_with fail
   go_ret
   exact⟨ret_i64 (congrArg (fun n:Nat=>(n:Int)) HF.out),rfl⟩
  |some p=>
   rw[hp]at k4;have k4':wr.cell? ⟨M.g,y*7+4,none⟩=some (.int .i64 (p:Nat)):=k4;have n2:(0:Int)<=(p:Int):=by omega
   have HN:=hi_ (show p<M.nodes.length by rw[<-hlen];exact(W.lt hp).2);have HE2:=hi_ (show top M.m p=t by rw[<-HE.out,W.top_step hp]);have HD:=hi_ (W.depth_step hp);clear k4 hp hy;go_wp2_with fail
   go_roundw
   case rel=>exact⟨p,rfl,trivial,HN,HE2⟩
   case measure=>
    show depth M.m ((p:Nat):Int).toNat<depth M.m ((y:Nat):Int).toNat;rw[Int.toNat_natCast,Int.toNat_natCast,HD.out];omega
theorem mContains(M:MMem)(a b:Nat)(w:World)(h:ModelMem w M)(W:WF M.m)(hb:b<M.nodes.length):Calls Tryz.prog 80 #[.pointer (some ⟨M.mb,0,none⟩),.int .i64 a,.int .i64 b] w fun e w'=>e=.returned (.bool (contains M.m a b))/\w=w':=by
 obtain⟨c0,l0,l1⟩:=h.top;have HP:=hi_ (fun y (hy:y<M.nodes.length)=>(h.cell hy).2.2.2.2.1);have hlen:=M.m_len;have hfew:=h.few;generalize ht:contains M.m a b=t at *;have HTt:=hi_ ht;have HI:=hi_ hb;clear h ht hb
 go_enter Tryz.func80,Tryz.ntmps80
 go_wp2_with fail
 go_loopw [2] (fun v2 wr=>∃o:Option Nat,v2=.int .i64 (parI o)/\wr=w/\Hid (∀y,o=some y->y<M.nodes.length)/\Hid (t=match o with|some y=>contains M.m a y|none=>false)) (fun v2 _=>if intOfV v2<0 then 0 else depth M.m (intOfV v2).toNat)
 case atStart=>exact⟨some b,rfl,rfl,hi_ (fun y hy=>by injection hy with hy;rw[<-hy];exact HI.out),hi_ HTt.out.symm⟩
 case round=>
  obtain⟨o,rfl,rfl,HO,HE⟩:=hrel;clear HTt HI
  cases o with
  |none=>
   have HF:Hid (t=false):=HE;have e0:parI none=-1:=rfl;rw[e0];clear e0;go_wp2_with fail
   go_ret
   exact⟨ret_bool HF.out.symm,rfl⟩
  |some y=>
   have hy:=HO.out y rfl;have k4:=HP.out y hy;have n1:(y:Int)<(M.nodes.length:Int):=by omega
   have n0:(0:Int)<=(y:Int):=by omega
   have HE1:Hid (t=contains M.m a y):=HE;have e0:parI (some y)=(y:Int):=rfl;rw[e0];clear e0
   by_cases e:a=y
   ·have z1:((a:Int)==(y:Int))=true:=by rw[e];exact beq_self_eq_true _
    have HF:Hid (t=true):=hi_ (by rw[HE1.out,e];exact W.contains_self y);have z2:(a:Int)=(y:Int):=by omega
    clear e hy;go_wp2_with fail
    go_ret
    exact⟨ret_bool HF.out.symm,rfl⟩
   ·have z1:((a:Int)==(y:Int))=false:=beq_eq_false_iff_ne.2 (by omega)
    have z2:¬(a:Int)=(y:Int):=by omega
    have HN:Hid (t=match (nd M.m y).parent with|some q=>contains M.m a q|none=>false):=hi_ (by
     rw[HE1.out]
     cases hp:(nd M.m y).parent with
     |none=>rw[W.contains_root hp];exact beq_eq_false_iff_ne.2 e
     |some p=>rw[W.contains_step hp,beq_eq_false_iff_ne.2 e,Bool.false_or])
    have HPh:Hid (∀q,(nd M.m y).parent=some q->q<M.nodes.length):=hi_ (fun q hq=>by rw[<-hlen];exact(W.lt hq).2);have HD:Hid ((if parI (nd M.m y).parent<0 then 0 else depth M.m (parI (nd M.m y).parent).toNat)<(if ((y:Nat):Int)<0 then 0 else depth M.m ((y:Nat):Int).toNat)):=hi_ (by
     rw[if_neg (by omega:¬((y:Nat):Int)<0),Int.toNat_natCast]
     cases hp:(nd M.m y).parent with
     |none=>rw[if_pos (by show(-1:Int)<0;omega)];exact W.depth_pos y
     |some p=>
      rw[if_neg (by show ¬((p:Nat):Int)<0;omega),show(parI (some p)).toNat=p from Int.toNat_natCast p,W.depth_step hp]
      omega)
    generalize (nd M.m y).parent=po at *;clear e hy;go_wp2_with fail
    go_roundw
    case rel=>exact⟨po,rfl,trivial,HPh,HN⟩
    case measure=>exact HD.out
theorem mDepth(M:MMem)(b:Nat)(w:World)(h:ModelMem w M)(W:WF M.m)(hb:b<M.nodes.length):Calls Tryz.prog 120 #[.pointer (some ⟨M.mb,0,none⟩),.int .i64 b] w fun e w'=>e=.returned (.int .i64 (depth M.m b:Nat))/\w=w':=by
 obtain⟨c0,l0,l1⟩:=h.top;have HP:=hi_ (fun y (hy:y<M.nodes.length)=>(h.cell hy).2.2.2.2.1);have hlen:=M.m_len;have hfew:=h.few;have hdl:=W.depth_le b;generalize ht:depth M.m b=t at *;have HTt:=hi_ ht;have HI:=hi_ hb;clear h ht hb
 go_enter Tryz.func120,Tryz.ntmps120
 go_wp2_with fail
 go_loopw [1,5] (fun v1 v5 wr=>∃(o:Option Nat) (k:Nat),v1=.int .i64 (parI o)/\v5=.int .i64 (k:Nat)/\wr=w/\Hid (∀y,o=some y->y<M.nodes.length)/\k+depthO M.m o=t) (fun _ v5 _=>129-(intOfV v5).toNat)
 case atStart=>exact⟨some b,0,rfl,rfl,rfl,hi_ (fun y hy=>by injection hy with hy;rw[<-hy];exact HI.out),by show 0+depth M.m b=t;rw[HTt.out];omega⟩
 case round=>
  obtain⟨o,k,rfl,rfl,rfl,HO,hE⟩:=hrel;clear HTt HI
  cases o with
  |none=>
   have HF:Hid (k=t):=hi_ hE;have e0:parI none=-1:=rfl;rw[e0];clear e0 hE;go_wp2_with fail
   go_ret
   exact⟨ret_i64 (congrArg (fun n:Nat=>(n:Int)) HF.out),rfl⟩
  |some y=>
   have hy:=HO.out y rfl;have k4:=HP.out y hy;have n1:(y:Int)<(M.nodes.length:Int):=by omega
   have n0:(0:Int)<=(y:Int):=by omega
   have hE1:k+depth M.m y=t:=hE;have hdy:=W.depth_pos y;have hst:=depthO_parent W y;have hk:k<=128:=by omega
   have HN:Hid (k+1+depthO M.m (nd M.m y).parent=t):=hi_ (by omega);have HK:Hid (k<=128):=hi_ hk;have wk:IntKind.i64.wrap ((k:Int)+1)=(k:Int)+1:=IntWalk.i64_in _ (by omega);have e0:parI (some y)=(y:Int):=rfl;rw[e0];have HPh:Hid (∀q,(nd M.m y).parent=some q->q<M.nodes.length):=hi_ (fun q hq=>by rw[<-hlen];exact(W.lt hq).2);generalize (nd M.m y).parent=po at *;clear e0 hE hE1 hst hdy hy;go_wp2_with fail
   go_roundw
   case rel=>exact⟨po,k+1,rfl,by first|rfl|(congr 1),trivial,HPh,HN.out⟩
   case measure=>
    have:=HK.out;show 129-((k:Int)+1).toNat<129-((k:Nat):Int).toNat;omega
def atI(l:List Nat)(i:Int):Int:=if i<0 then -1 else match l[i.toNat]? with|some x=>(x:Int)|none=>-1
theorem mAt(v:Value)(l:List Nat)(base:Nat)(i:Int)(w:World)(h:OwnN base w v l):Calls Tryz.prog 122 #[v,.int .i64 i] w fun e w'=>e=.returned (.int .i64 (atI l i))/\w=w':=by
 obtain⟨ao,cap,rfl,hc⟩:=OwnN.form h;have HR:Hid (atI l i=if i<0 then -1 else match l[i.toNat]? with|some x=>(x:Int)|none=>-1):=hi_ rfl;generalize atI l i=R at *
 by_cases h0:i<0
 ·have HF:Hid (R=-1):=hi_ (by rw[HR.out,if_pos h0])
  clear h hc
  go_enter Tryz.func122,Tryz.ntmps122
  go_wp2_with fail
  go_ret
  exact⟨ret_i64 HF.out.symm,rfl⟩
 ·have hR1:=HR.out
  rw[if_neg h0]at hR1
  cases hx:l[i.toNat]? with
  |none=>
   rw[hx]at hR1;have hle:=List.getElem?_eq_none_iff.1 hx;have n1:(l.length:Int)<=i:=by omega
   have HF:Hid (R=-1):=hi_ hR1;clear h hc hR1 hx hle
   go_enter Tryz.func122,Tryz.ntmps122
   go_wp2_with fail
   go_ret
   exact⟨ret_i64 HF.out.symm,rfl⟩
  |some x=>
   rw[hx]at hR1;have hlt:i.toNat<l.length:=by
    rcases Nat.lt_or_ge i.toNat l.length with h2|h2
    ·exact h2
    ·rw[List.getElem?_eq_none h2]at hx;cases hx
   obtain⟨g,rfl,hg,hcell⟩:=hc _ _ hx;have n1:¬(l.length:Int)<=i:=by omega
   have n2:i<(l.length:Int):=by omega
   have n3:(0:Int)<=i:=by omega
   have HF:Hid (R=(x:Int)):=hi_ hR1;clear h hc hR1 hx hlt
   go_enter Tryz.func122,Tryz.ntmps122
   go_wp2_with fail
   go_ret
   exact⟨ret_i64 HF.out.symm,rfl⟩
end R
end
section
open Go.RowKit
namespace N
def CS:ByteArray:=⟨#[9,10,12,13,32,47,62]⟩
theorem asc_list{l:List UInt8}(h:∀b∈l,b.toNat<128):Asc ⟨l.toArray⟩:=fun j hj=>h _ (by
 have h2:j<l.length:=by rw[H.bytes_size]at hj;exact hj
 exact List.getElem_mem h2)
theorem cs_asc:Asc CS:=asc_list (l:=[9,10,12,13,32,47,62]) (by decide)
theorem indexAny_all(s:ByteArray)(w:World)(hs:s.size<4294967281) :
  Calls Tryz.prog 165 #[.string s,.string CS] w fun e w'=>e=.returned (.int .i64 (Lib.indexAny s.data.toList CS.data.toList))/\Below w.heap.size w w':=by
 rcases Nat.lt_or_ge 8 s.size with h|h
 ·refine(Tryz.strings_IndexAny_long (zero_of_info (n:=256) (by kernel_rfl)).1 s CS w (by decide) h hs (by decide) (fun j b hb=>?_)).mono ?_
  ·have hj:j<CS.data.toList.length:=by
    rcases Nat.lt_or_ge j CS.data.toList.length with h1|h1
    ·exact h1
    ·rw[List.getElem?_eq_none h1]at hb;cases hb
   rw[List.getElem?_eq_getElem hj]at hb;injection hb with hb
   rw[<-hb];exact cs_asc j hj
  ·rintro e w' ⟨h1,h2⟩
   exact⟨h1,by rw[h2];exact((Below.refl _ w).alloc (Nat.le_refl _) _).alloc (by simp) _⟩
 ·exact indexAny_short s CS w h cs_asc (by decide) (by decide)
theorem containsAny_(s:ByteArray)(w:World)(hs:s.size<4294967281) :
  Calls Tryz.prog 150 #[.string s,.string ⟨#[9,10,12,13,32,47,62]⟩] w fun e w'=>e=.returned (.bool (decide (0<=Lib.indexAny s.data.toList CS.data.toList)))/\Below w.heap.size w w':=by
 have Q:=hi_ (indexAny_all s w hs);generalize Lib.indexAny s.data.toList CS.data.toList=z at *;unfold CS at Q
 go_enter Tryz.func150,Tryz.ntmps150
 go_wp2_with fail
 refine Q.out.mono ?_;rintro e w1 ⟨rfl,b1⟩;go_wp2_with fail
 go_ret
 exact⟨H.ret_bool (by first|rfl|simp[ge_iff_le]),b1⟩
def lowOk(s:List UInt8):Bool:=decide (U.rep s=s) && decide (s.map T.low=s)
theorem lower_(s:ByteArray)(w:World)(hs:s.size<=100000)(hT:T.Tabs w) :
  Calls Tryz.prog 149 #[.string s] w fun e w'=>e=.returned (.bool (lowOk s.data.toList))/\Below w.heap.size w w':=by
 have QV:=hi_ (T.Valid s w (by omega) hT);have QL:=hi_ (fun W=>T.Lower s W (by omega));unfold lowOk;generalize decide (U.rep s.data.toList=s.data.toList)=v at *
 go_enter Tryz.func149,Tryz.ntmps149
 go_wp2_with fail
 refine QV.out.mono ?_;rintro e w1 ⟨rfl,b1⟩
 cases v with
 |false=>
  go_wp2_with fail
  go_ret
  exact⟨rfl,b1⟩
 |true=>
  go_wp2_with fail
  refine(QL.out _).mono ?_;rintro e w2 ⟨rfl,b2⟩;have HB:=hi_ (b1.trans (b2.mono b1.size));go_wp2_with fail
  go_ret
  exact⟨H.ret_bool (by rw[Lib.toList_data,Bool.true_and];rw[Bool.eq_iff_iff];simp),HB.out⟩
theorem ia_ge(chars:List UInt8):∀s:List UInt8,decide (0<=Lib.indexAny s chars)=s.any (fun b=>chars.contains b)
 |[]=>rfl
 |a :: t=>by
  have ih:=ia_ge chars t;have hg:=Lib.indexAny_ge chars t;rw[Lib.indexAny,List.any_cons]
  cases hc:chars.contains a with
  |true=>rfl
  |false=>
   rw[Bool.false_or,<-ih]
   by_cases h3:Lib.indexAny t chars=-1
   ·rw[h3];rfl
   ·have h5:(Lib.indexAny t chars == -1)=false:=by simpa using h3
    rw[h5];simp only[Bool.false_eq_true,if_false];rw[decide_eq_decide];omega
theorem low_all:∀s:List UInt8,decide (s.map T.low=s)=s.all (fun c=>!(decide (65<=c.toNat) && decide (c.toNat<=90)))
 |[]=>rfl
 |a :: t=>by
  rw[List.all_cons,<-low_all t,Bool.eq_iff_iff,Bool.and_eq_true,decide_eq_true_eq,decide_eq_true_eq,List.map_cons,List.cons.injEq];refine and_congr ?_ Iff.rfl;unfold T.low
  by_cases h:65<=a.toNat/\a.toNat<=90
  ·rw[if_pos h]
   simp only[h.1,h.2,decide_true,Bool.and_true,Bool.not_true,Bool.false_eq_true,iff_false];intro e;have:=congrArg UInt8.toNat e;rw[UInt8.toNat_ofNat']at this;omega
  ·rw[if_neg h]
   simp only[true_iff,Bool.not_eq_true',Bool.and_eq_false_iff,decide_eq_false_iff_not];omega
theorem all_and{α:Type}(p q:α->Bool):∀l:List α,l.all (fun x=>p x && q x)=(l.all p && l.all q)
 |[]=>rfl
 |a :: t=>by rw[List.all_cons,List.all_cons,List.all_cons,all_and p q t];cases p a<;>cases q a<;>cases t.all p<;>rfl
theorem all_any{α:Type}(p:α->Bool):∀l:List α,(!l.any p)=l.all (fun x=>!p x)
 |[]=>rfl
 |a :: t=>by rw[List.any_cons,List.all_cons,Bool.not_or,all_any p t]
theorem cs_contains(c:UInt8):CS.data.toList.contains c=(G.spB c || c==47 || c==62):=by
 show([9,10,12,13,32,47,62]:List UInt8).contains c=_;unfold G.spB;simp only[List.contains_cons,List.contains_nil,Bool.or_false,Bool.or_assoc]
theorem nameOk_eq(s:List UInt8):G.nameOk s=(!s.isEmpty && lowOk s && !decide (0<=Lib.indexAny s CS.data.toList)):=by
 unfold G.nameOk lowOk;rw[ia_ge,all_any,low_all];have e:s.all (fun c=>!G.badB c)=(s.all (fun c=>!(decide (65<=c.toNat) && decide (c.toNat<=90))) && s.all (fun x=>!CS.data.toList.contains x)):=by
  rw[<-all_and]
  congr 1
  funext c
  unfold G.badB;rw[cs_contains,Bool.not_or,Bool.and_comm]
 rw[e];generalize s.all (fun c=>!(decide (65<=c.toNat) && decide (c.toNat<=90)))=A;generalize s.all (fun x=>!CS.data.toList.contains x)=B;generalize decide (U.rep s=s)=D;generalize s.isEmpty=E
 cases E<;>cases A<;>cases B<;>cases D<;>rfl
theorem headOk_eq(s:List UInt8):G.headOk s=(!s.isEmpty && lowOk s && !decide (0<=Lib.indexAny s CS.data.toList) && decide (Lib.indexByte (s.drop 1) 61<0)):=by
 unfold G.headOk;rw[nameOk_eq];have e:(s.drop 1).all (fun c=>!(c==61))=decide (Lib.indexByte (s.drop 1) 61<0):=by
  have h:=ib_ge (s.drop 1) 61;have h2:decide (Lib.indexByte (s.drop 1) 61<0) = !decide (0<=Lib.indexByte (s.drop 1) 61):=by
   rw[<-decide_not];exact decide_eq_decide.2 (by omega)
  rw[h2,h,List.contains_eq_any_beq,all_any]
  congr 1
  funext c
  by_cases h:c=61
  ·subst h;rfl
  ·rw[beq_eq_false_iff_ne.2 h,beq_eq_false_iff_ne.2 (fun e=>h e.symm)]
 rw[e,Bool.and_comm]
theorem attrName_(s:List UInt8)(w:World)(hs:s.length<=100000)(hT:T.Tabs w) :
  Calls Tryz.prog 126 #[.string ⟨s.toArray⟩] w fun e w'=>e=.returned (.bool (G.headOk s))/\Below w.heap.size w w':=by
 have hsz:(⟨s.toArray⟩:ByteArray).size=s.length:=H.bytes_size s;have hdt:(⟨s.toArray⟩:ByteArray).data.toList=s:=by simp
 have QL:=lower_ ⟨s.toArray⟩ w (by omega) hT;have QC:=fun W=>containsAny_ ⟨s.toArray⟩ W (by omega);have QB:∀(x:ByteArray) W,Calls Tryz.prog 153 #[.string x,.int .u8 61] W fun e w'=>e=.returned (.int .i64 (Lib.indexByte x.data.toList 61))/\w'=W:=fun x W=>Tryz.strings_IndexByte x 61 W;rw[hdt]at QL QC;have HQ:=hi_ QL;have HC:=hi_ QC;have HB:=hi_ QB;have HV:=hi_ (headOk_eq s);generalize G.headOk s=V at *;clear QL QC QB hT
 cases s with
 |nil=>
  have HF:Hid (V=false):=HV;clear HQ HC HV hsz hdt
  go_enter Tryz.func126,Tryz.ntmps126
  go_wp2_with fail
  go_ret
  exact⟨H.ret_bool HF.out.symm,Below.refl _ _⟩
 |cons c t=>
  have hne:(⟨(c :: t).toArray⟩:ByteArray).toList.isEmpty=false:=by rw[Lib.toList_data];rfl
  have hex:((⟨(c :: t).toArray⟩:ByteArray).extract 1 (⟨(c :: t).toArray⟩:ByteArray).size).data.toList=t:=by
   rw[hsz,Lib.extract_data];simp
  have HV2:Hid (V=(lowOk (c :: t) && !decide (0<=Lib.indexAny (c :: t) CS.data.toList) && decide (Lib.indexByte t 61<0))):=hi_ (by rw[HV.out];rfl);have HEx:=hi_ hex;generalize lowOk (c :: t)=v1 at *;generalize Lib.indexAny (c :: t) CS.data.toList=z at *;clear HV hdt hex;generalize hS:(⟨(c :: t).toArray⟩:ByteArray)=S at *;have hl1:(1:Int)<=(S.size:Int):=by rw[hsz];simp;omega
  clear hS hsz
  go_enter Tryz.func126,Tryz.ntmps126
  go_wp2_with fail
  refine HQ.out.mono ?_;rintro e w1 ⟨rfl,b1⟩;have HB1:=hi_ b1;clear b1
  cases v1 with
  |false=>
   have HF:=hi_ (show V=false by rw[HV2.out];rfl);go_wp2_with fail
   go_ret
   exact⟨H.ret_bool HF.out.symm,HB1.out⟩
  |true=>
   have HV3:=hi_ (show V=(!decide (0<=z) && decide (Lib.indexByte t 61<0)) by rw[HV2.out,Bool.true_and]);generalize hd:decide (0<=z)=d at *;clear hd;go_wp2_with fail
   refine(HC.out _).mono ?_;rintro e w2 ⟨rfl,b2⟩;have HB2:=bt_ HB1 b2;clear b2
   cases d with
   |true=>
    have HF:=hi_ (show V=false by rw[HV3.out];rfl);go_wp2_with fail
    go_ret
    exact⟨H.ret_bool HF.out.symm,HB2.out⟩
   |false=>
    have HV4:=hi_ (show V=decide (Lib.indexByte t 61<0) by rw[HV3.out];rfl);go_wp2_with fail
    refine(HB.out _ _).mono ?_;rintro e w3 ⟨rfl,rfl⟩;rw[HEx.out];generalize Lib.indexByte t 61=y at *;go_wp2_with fail
    go_ret
    exact⟨H.ret_bool HV4.out.symm,HB2.out⟩
end N
end
section
open Go.RowKit Go.Sort
namespace A
open H G
section
variable {T:TMem} {m:Model} {pos:Nat->Nat}
structure Putted(T T':TMem)(m:Model)(pos:Nat->Nat)(h p:Nat)(bef aft:Option Nat):Prop where
 bs:T'.bs=T.bs
 st:T'.st=T.st
 len:T'.slots.length=T.slots.length
 frees:T'.frees=T.frees
 live:T'.live=T.live
 root:T'.root=T.root
 used:∀s,(T'.sl s).used=(T.sl s).used
 same:∀i,has m i=true->(T'.sl (pos i)).kind=(T.sl (pos i)).kind/\(T'.sl (pos i)).name=(T.sl (pos i)).name/\(T'.sl (pos i)).al=(T.sl (pos i)).al/\(T'.sl (pos i)).data=(T.sl (pos i)).data
 parent:∀i,has m i=true->(T'.sl (pos i)).parent=if i=h then hd T pos p else(T.sl (pos i)).parent
 first:∀i,has m i=true->(T'.sl (pos i)).first=if i=p/\bef=none then hd T pos h else(T.sl (pos i)).first
 last:∀i,has m i=true->(T'.sl (pos i)).last=if i=p/\aft=none then hd T pos h else(T.sl (pos i)).last
 prev:∀i,has m i=true->(T'.sl (pos i)).prev=if i=h then hdO T pos bef else if aft=some i then hd T pos h else(T.sl (pos i)).prev
 next:∀i,has m i=true->(T'.sl (pos i)).next=if i=h then hdO T pos aft else if bef=some i then hd T pos h else(T.sl (pos i)).next
theorem has_put{h p k:Nat}(h1:h<m.length)(h2:p<m.length)(i:Nat):has (put m p h k) i=has m i:=by
 unfold has;rw[nd_put h1 h2]
theorem Fits.put{T':TMem}{h p k:Nat}(F:Fits T m pos)(hh:has m h=true)(hph:has m p=true)(hr:(nd m h).parent=none)(hne:h≠p)(hk:k<=(nd m p).kids.length)(hWc:WF (G.put m p h k))
  (C:Putted T T' m pos h p (prevSib.prevAt2 (nd m p).kids k) (nd m p).kids[k]?):Fits T' (G.put m p h k) pos:=by
 have W:=F.wf;have hhl:=has_lt hh;have hpl:=has_lt hph;have hd_:=W.nodup p;have e0:∀o,hdO T' pos o=hdO T pos o:=hdO_same C.bs C.st;have hhas:=has_put (m:=m) (k:=k) hhl hpl;have hnot:∀j,h∉(nd m j).kids:=fun j hj=>by
  have:=(W.kid j h hj).2;rw[hr]at this;cases this
 obtain⟨A,B,hAB,hAl⟩:∃A B,(nd m p).kids=A++B/\A.length=k:=⟨_,_,(List.take_append_drop k _).symm,by rw[List.length_take];omega⟩;have hbef:prevSib.prevAt2 (nd m p).kids k=A.getLast?:=by rw[hAB,<-hAl,prevAt2_app (Nat.le_refl _),prevAt2_len]
 have haft:(nd m p).kids[k]?=B.head?:=by rw[hAB,<-hAl,List.getElem?_append_right (by omega),List.head?_eq_getElem?,Nat.sub_self]
 rw[hbef,haft]at C;have hins:(nd m p).kids.take k++h :: (nd m p).kids.drop k=A++h :: B:=by
  rw[hAB,<-hAl,List.take_left,List.drop_left]
 have hkids:∀j,(nd (G.put m p h k) j).kids=if j=p then A++h :: B else(nd m j).kids:=by
  intro j;rw[nd_put hhl hpl];dsimp only
  by_cases e:j=p
  ·rw[if_pos e,if_pos e,e,hins]
  ·rw[if_neg e,if_neg e]
 have hpar:∀j,(nd (G.put m p h k) j).parent=if j=h then some p else(nd m j).parent:=by
  intro j;rw[nd_put hhl hpl]
 have hnA:h∉A:=fun hA=>hnot p (by rw[hAB];exact List.mem_append_left _ hA);have hnB:h∉B:=fun hA=>hnot p (by rw[hAB];exact List.mem_append_right _ hA);have hAn:A.Nodup:=by rw[hAB]at hd_;exact(List.nodup_append.1 hd_).1
 have hBn:B.Nodup:=by rw[hAB]at hd_;exact(List.nodup_append.1 hd_).2.1
 have hdis:∀x,x∈A->x∈B->False:=fun x h1 h2=>by rw[hAB]at hd_;exact(List.nodup_append.1 hd_).2.2 x h1 x h2 rfl
 have hsib:∀j,has (G.put m p h k) j=true->Sib T' pos (nd (G.put m p h k) j).kids:=by
  intro j hj;rw[hhas]at hj;have hS:=F.sib hj;intro q x hx;rw[e0,e0]
  by_cases e:j=p
  ·subst e
   rw[hkids,if_pos rfl]at hx ⊢;rw[hAB]at hS
   rcases Nat.lt_trichotomy q A.length with hq|hq|hq
   ·have hxA:A[q]?=some x:=by rwa [List.getElem?_append_left hq]at hx
    have hmA:=List.mem_of_getElem? hxA;have hxh:=has_kid F hj (by rw[hAB];exact List.mem_append_left _ hmA);have hxne:x≠h:=by rintro rfl;exact hnA hmA
    obtain⟨s1,s2⟩:=hS q x (by rw[List.getElem?_append_left hq];exact hxA);have hxB:B.head?≠some x:=fun hb=>hdis x hmA (List.mem_of_mem_head? hb);rw[C.prev x hxh,C.next x hxh,if_neg hxne,if_neg hxne,if_neg hxB,s1,s2];refine⟨by rw[prevAt2_app (Nat.le_of_lt hq),prevAt2_app (Nat.le_of_lt hq)],?_⟩
    by_cases hl:q+1=A.length
    ·have:A.getLast?=some x:=by rw[List.getLast?_eq_getElem?,<-hxA];congr 1;omega
     rw[if_pos this,List.getElem?_append_right (by omega),hl,Nat.sub_self];rfl
    ·have:¬A.getLast?=some x:=by
      intro e2;rw[List.getLast?_eq_getElem?]at e2;have h3:=(List.getElem?_inj hq hAn).1 (hxA.trans e2.symm);omega
     rw[if_neg this,List.getElem?_append_left (by omega),List.getElem?_append_left (by omega)]
   ·have hxh:x=h:=by
     rw[hq,List.getElem?_append_right (Nat.le_refl _),Nat.sub_self]at hx;injection hx with hx;exact hx.symm
    subst hxh;rw[C.prev x hh,C.next x hh,if_pos rfl,if_pos rfl];refine⟨?_,?_⟩
    ·rw[hq,prevAt2_app (Nat.le_refl _),prevAt2_len]
    ·rw[List.getElem?_append_right (by omega),show q+1-A.length=0+1 by omega,List.getElem?_cons_succ,List.head?_eq_getElem?]
   ·have hxB:B[q-1-A.length]?=some x:=by
     rw[List.getElem?_append_right (by omega),show q-A.length=(q-1-A.length)+1 by omega,List.getElem?_cons_succ]at hx;exact hx
    have hmB:=List.mem_of_getElem? hxB;have hxh:=has_kid F hj (by rw[hAB];exact List.mem_append_right _ hmB);have hxne:x≠h:=by rintro rfl;exact hnB hmB
    have hx0:(A++B)[q-1]?=some x:=by
     rw[List.getElem?_append_right (by omega)];exact hxB
    obtain⟨s1,s2⟩:=hS _ x hx0;have hxA:¬A.getLast?=some x:=fun hb=>hdis x (List.mem_of_mem_getLast? hb) hmB;rw[C.prev x hxh,C.next x hxh,if_neg hxne,if_neg hxne,if_neg hxA,s1,s2];have hqB:q-1-A.length<B.length:=by
     rcases Nat.lt_or_ge (q-1-A.length) B.length with h1|h1
     ·exact h1
     ·rw[List.getElem?_eq_none h1]at hxB;cases hxB
    constructor
    ·by_cases h0:q=A.length+1
     ·have hb:B.head?=some x:=by rw[List.head?_eq_getElem?,<-hxB];congr 1;omega
      rw[if_pos hb];unfold prevSib.prevAt2;rw[if_neg (by omega),h0,List.getElem?_append_right (by omega),show A.length+1-1-A.length=0 by omega];rfl
     ·have hb:¬B.head?=some x:=by
       intro e2;rw[List.head?_eq_getElem?]at e2;have h3:=(List.getElem?_inj (by omega) hBn).1 (e2.trans hxB.symm);omega
      rw[if_neg hb]
      congr 1
      unfold prevSib.prevAt2;rw[if_neg (by omega),if_neg (by omega),List.getElem?_append_right (by omega),List.getElem?_append_right (by omega),show q-1-A.length=(q-1-1-A.length)+1 by omega,List.getElem?_cons_succ]
    ·congr 1
     rw[List.getElem?_append_right (by omega),List.getElem?_append_right (by omega),show q+1-A.length=(q-1+1-A.length)+1 by omega,List.getElem?_cons_succ]
  ·rw[hkids,if_neg e]at hx ⊢
   have hxk:=List.mem_of_getElem? hx;have hxh:=has_kid F hj hxk;have hxp:=(W.kid j x hxk).2;have hxne:x≠h:=by
    rintro rfl;exact hnot j hxk
   have hno:∀y,y∈(nd m p).kids->y≠x:=by
    rintro y hy rfl;have:=(W.kid p y hy).2;rw[hxp]at this;injection this with this
    exact e this
   have n1:¬B.head?=some x:=fun e2=>hno x (by rw[hAB];exact List.mem_append_right _ (List.mem_of_mem_head? e2)) rfl;have n2:¬A.getLast?=some x:=fun e2=>hno x (by rw[hAB];exact List.mem_append_left _ (List.mem_of_mem_getLast? e2)) rfl;rw[C.prev x hxh,C.next x hxh,if_neg hxne,if_neg hxne,if_neg n1,if_neg n2];exact hS q x hx
 have hlone:∀i,has (G.put m p h k) i=true->(nd (G.put m p h k) i).parent=none->(T'.sl (pos i)).prev=0/\(T'.sl (pos i)).next=0:=by
  intro i hi hn;rw[hhas]at hi;rw[hpar]at hn;rw[C.prev i hi,C.next i hi]
  by_cases e:i=h
  ·rw[if_pos e]at hn;cases hn
  ·rw[if_neg e]at hn
   rw[if_neg e,if_neg e];have hnk:∀y,y∈(nd m p).kids->y≠i:=by
    rintro y hy rfl;have:=(W.kid p y hy).2;rw[hn]at this;cases this
   have n1:¬B.head?=some i:=fun e2=>hnk i (by rw[hAB];exact List.mem_append_right _ (List.mem_of_mem_head? e2)) rfl;have n2:¬A.getLast?=some i:=fun e2=>hnk i (by rw[hAB];exact List.mem_append_left _ (List.mem_of_mem_getLast? e2)) rfl;rw[if_neg n1,if_neg n2];exact F.lone hi hn
 have hpn:=prev_next_of (T:=T') (pos:=pos) hWc (fun i q hi hq=>has_up hWc hi hq) hsib hlone;refine { wf:=hWc,lt:=?_,used:=?_,kind:=?_,name:=?_,attrs:=?_,data:=?_,parent:=?_,first:=?_,last:=?_,prev:=hpn.1,next:=hpn.2,inj:=?_,onto:=?_,frees:=?_,live:=?_,root:=?_ }
 ·intro i hi;rw[C.len];exact F.lt i (by rwa [hhas]at hi)
 ·intro i hi;rw[C.used];exact F.used i (by rwa [hhas]at hi)
 ·intro i hi;rw[hhas]at hi;rw[(C.same i hi).1,F.kind i hi,nd_put hhl hpl]
 ·intro i hi;rw[hhas]at hi;rw[(C.same i hi).2.1,F.name i hi,nd_put hhl hpl]
 ·intro i hi;rw[hhas]at hi;rw[(C.same i hi).2.2.1,F.attrs i hi,nd_put hhl hpl]
 ·intro i hi;rw[hhas]at hi;rw[(C.same i hi).2.2.2,F.data i hi,nd_put hhl hpl]
 ·intro i hi;rw[hhas]at hi
  rw[e0,C.parent i hi,hpar]
  by_cases e:i=h
  ·rw[if_pos e,if_pos e];rfl
  ·rw[if_neg e,if_neg e];exact F.parent i hi
 ·intro i hi;rw[hhas]at hi
  rw[e0,C.first i hi,hkids]
  by_cases e:i=p
  ·subst e
   rw[if_pos rfl]
   cases A with
   |nil=>rw[if_pos ⟨rfl,rfl⟩];rfl
   |cons a A'=>rw[if_neg (by simp),F.first i hi,hAB];rfl
  ·rw[if_neg e,if_neg (fun h=>e h.1)];exact F.first i hi
 ·intro i hi;rw[hhas]at hi
  rw[e0,C.last i hi,hkids]
  by_cases e:i=p
  ·subst e
   rw[if_pos rfl]
   cases B with
   |nil=>rw[if_pos ⟨rfl,rfl⟩,List.getLast?_append];rfl
   |cons b B'=>
    rw[if_neg (by simp),F.last i hi,hAB,List.getLast?_append,List.getLast?_append]
    congr 1
  ·rw[if_neg e,if_neg (fun h=>e h.1)];exact F.last i hi
 ·intro i j hi hj;rw[hhas]at hi hj;exact F.inj i j hi hj
 ·intro s hs hu
  rw[C.len]at hs;rw[C.used]at hu;obtain⟨i,hi,hp⟩:=F.onto s hs hu;exact⟨i,by rw[hhas];exact hi,hp⟩
 ·rw[C.frees,C.len]
  exact⟨F.frees.1,fun s hs=>by rw[C.used];exact F.frees.2 s hs⟩
 ·rw[C.live,F.live,show(G.put m p h k).length=m.length by unfold G.put;simp]
  congr 2
  exact List.filter_congr (fun x _=>(hhas x).symm)
 ·rw[C.root,F.root]
  unfold hd;rw[C.bs,C.st]
end
end A
end
section
open Go.RowKit Go.Sort
namespace A
open H G
theorem infoAttr:(Tryz.prog.info? 142).map (fun i=>(i.zero,i.size,i.bytes))=some (some (.agg #[.string ⟨#[]⟩,.string ⟨#[]⟩]),2,32):=by kernel_rfl
theorem AttrsAt.form{w:World}{v:Value}{l:List (List UInt8×List UInt8)}(h:AttrsAt w v l):(v=.slice none 0 0/\l=[])\/∃g cap,v=.slice (some ⟨g,0,none⟩) l.length cap/\g<w.heap.size:=by
 unfold AttrsAt RecRow at h
 rcases h.2 with⟨h1,h2⟩|⟨g,cap,cur,h1,hb,hg,_⟩
 ·exact Or.inl ⟨h1,List.length_eq_zero_iff.1 h2⟩
 ·exact Or.inr ⟨g,cap,h1,lt_of_block hg⟩
theorem one_acells{l:List (List UInt8×List UInt8)}:∀u∈l.flatMap acells,u.oneCell'=true:=by
 intro u hu;obtain⟨p,_,hp⟩:=List.mem_flatMap.1 hu;unfold acells at hp
 rcases List.mem_cons.1 hp with rfl|hp
 ·rfl
 ·rcases List.mem_cons.1 hp with rfl|hp
  ·rfl
  ·cases hp
theorem clone_attrs(v:Value)(l:List (List UInt8×List UInt8))(w:World)(h:AttrsAt w v l)(hl:l.length<=100000) :
  Calls Tryz.prog 101 #[v] w fun e w'=>∃v',e=.returned v'/\RecRow acells w.heap.size 142 2 w' v' l/\Below w.heap.size w w':=by
 obtain⟨i0,hi0,hz0,hz1,hz2⟩:=info_parts infoAttr;have q124:∀(w:World) (a:Option Addr) (n c n' c':Nat),(binOp .eql 124 (.slice a n c) (.slice none n' c')).run Tryz.prog w=.ok (.bool a.isNone) w:=fun w a n c n' c'=>Lib.run_eql_slice_nil w _ _ a n c n' c' Tryz.underlying124
 rcases h.form with⟨rfl,rfl⟩|⟨g,cap,rfl,hlt⟩
 ·go_enter Tryz.func101,Tryz.ntmps101
  go_wp2_with fail
  go_ret
  exact⟨_,rfl,World.ownsRow_nil _ _ _ _,Below.refl _ _⟩
 ·have HC:=hi_ (fun j u (hu:(l.flatMap acells)[j]?=some u)=>(show w.cell? ⟨g,j,none⟩=some u from by
   have hj:j<(l.flatMap acells).length:=by
    rcases Nat.lt_or_ge j (l.flatMap acells).length with h2|h2
    ·exact h2
    ·rw[List.getElem?_eq_none h2]at hu;cases hu
   rw[((ownsRow_open h).2.2.2 j hj).1,hu]))
  have HLn:=hi_ (flat_len acells_len l);have HOn:=hi_ (one_acells (l:=l));unfold RecRow;generalize l.flatMap acells=xs at *;generalize hn:l.length=n at *;clear h hn
  go_enter Tryz.func101,Tryz.ntmps101
  go_wp2_with (at_builtin;refine wpList_append_own _ rfl _ _ 124 rfl w.heap.size 142 i0 _ 2 32 Tryz.underlying124 hi0 hz0 hz1 hz2 rfl (by decide) _ _ _ rfl (World.ownsRow_made w #[] 0 (Nat.le_refl _) (Nat.zero_le _) rfl) ⟨g,0,none⟩ n cap xs rfl ?c1 ?c2 ?c3 ?c4 ?c5 ?c6 ?_)
  case c1=>exact HLn.out
  case c2=>
   intro j u hj;have e:(⟨g,0,none⟩:Addr).add j=⟨g,j,none⟩:=by unfold Addr.add;split<;>simp_all
   rw[e];exact Lib.cell?_alloc_some _ (HC.out j u hj)
  case c3=>exact HOn.out
  case c4=>unfold maxLen;omega
  case c5=>omega
  case c6=>simp
  intro v' w1 hown hgrow hnil;go_wp2_with fail
  go_ret
  refine⟨v',rfl,by simpa using hown,?_⟩;exact((Below.refl _ w).alloc (Nat.le_refl _) _).grown hgrow (by simp) (by intro k hk;simp[Value.ownBlock]at hk;omega)
theorem clone_nil(w:World):Calls Tryz.prog 101 #[.slice none 0 0] w fun e w'=>e=.returned (.slice none 0 0)/\w=w':=by
 have q124:∀(w:World) (a:Option Addr) (n c n' c':Nat),(binOp .eql 124 (.slice a n c) (.slice none n' c')).run Tryz.prog w=.ok (.bool a.isNone) w:=fun w a n c n' c'=>Lib.run_eql_slice_nil w _ _ a n c n' c' Tryz.underlying124
 go_enter Tryz.func101,Tryz.ntmps101
 go_wp2_with fail
 go_ret
 exact⟨rfl,rfl⟩
section
variable {w w0:World} {g:Nat} {t:TypeId} {cs:Array Value}
def set9(w:World)(g:Nat)(b0 b1 b2 b3 b4 b5 b6 b7 b8:Value):World:=((((((((w.setCell ⟨g,0,none⟩ b0).setCell ⟨g,1,none⟩ b1).setCell ⟨g,2,none⟩ b2).setCell ⟨g,3,none⟩ b3).setCell ⟨g,4,none⟩ b4).setCell ⟨g,5,none⟩ b5).setCell ⟨g,6,none⟩ b6).setCell ⟨g,7,none⟩ b7).setCell ⟨g,8,none⟩ b8
theorem Blk.set9{a0 a1 a2 a3 a4 a5 a6 a7 a8:Value}(h:Blk g #[a0,a1,a2,a3,a4,a5,a6,a7,a8] t w)(b0 b1 b2 b3 b4 b5 b6 b7 b8:Value):Blk g #[b0,b1,b2,b3,b4,b5,b6,b7,b8] t (A.set9 w g b0 b1 b2 b3 b4 b5 b6 b7 b8):=
 by
 have h9:=((((((((h.set 0 b0).set 1 b1).set 2 b2).set 3 b3).set 4 b4).set 5 b5).set 6 b6).set 7 b7).set 8 b8;simp only[List.setIfInBounds_toArray,List.set_cons_zero,List.set_cons_succ]at h9;exact h9
theorem below_set9{B:Nat}(h:Below B w0 w)(hg:B<=g)(b0 b1 b2 b3 b4 b5 b6 b7 b8:Value):Below B w0 (set9 w g b0 b1 b2 b3 b4 b5 b6 b7 b8):=
 bset (bset (bset (bset (bset (bset (bset (bset (bset h hg) hg) hg) hg) hg) hg) hg) hg) hg
theorem cells9{a0 a1 a2 a3 a4 a5 a6 a7 a8:Value}(h:Blk g #[a0,a1,a2,a3,a4,a5,a6,a7,a8] t w) :
  (w.cell? ⟨g,0,none⟩=some a0/\w.cell? ⟨g,1,none⟩=some a1/\w.cell? ⟨g,2,none⟩=some a2/\w.cell? ⟨g,3,none⟩=some a3/\w.cell? ⟨g,4,none⟩=some a4/\w.cell? ⟨g,5,none⟩=some a5/\w.cell? ⟨g,6,none⟩=some a6/\w.cell? ⟨g,7,none⟩=some a7/\w.cell? ⟨g,8,none⟩=some a8) ∧
  (w.frozen? ⟨g,0,none⟩=false/\w.frozen? ⟨g,1,none⟩=false/\w.frozen? ⟨g,2,none⟩=false/\w.frozen? ⟨g,3,none⟩=false/\w.frozen? ⟨g,4,none⟩=false/\w.frozen? ⟨g,5,none⟩=false/\w.frozen? ⟨g,6,none⟩=false/\w.frozen? ⟨g,7,none⟩=false/\w.frozen? ⟨g,8,none⟩=false):=by
 obtain⟨hc,hf⟩:=cells_of h;exact⟨⟨hc 0,hc 1,hc 2,hc 3,hc 4,hc 5,hc 6,hc 7,hc 8⟩,⟨hf 0 (by show 0<9;omega),hf 1 (by show 1<9;omega),hf 2 (by show 2<9;omega),hf 3 (by show 3<9;omega),hf 4 (by show 4<9;omega),hf 5 (by show 5<9;omega),hf 6 (by show 6<9;omega),hf 7 (by show 7<9;omega),hf 8 (by show 8<9;omega)⟩⟩
end
theorem AttrsAt.slice{w:World}{v:Value}{l:List (List UInt8×List UInt8)}(h:AttrsAt w v l):∃ao cap,v=.slice ao l.length cap:=by
 rcases h.form with⟨rfl,rfl⟩|⟨g,cap,rfl,_⟩
 ·exact⟨none,0,rfl⟩
 ·exact⟨_,cap,rfl⟩
def nodeAgg(r:Slot)(v:Value):Value:=.agg #[.int .i64 (r.kind:Nat),.string ⟨r.name.toArray⟩,v,.string ⟨r.data.toArray⟩,.int .i64 r.parent,.int .i64 r.first,.int .i64 r.last,.int .i64 r.prev,.int .i64 r.next]
theorem TreeIs.attrs{T:TMem}{m:Model}{pos:Nat->Nat}{w:World}(hT:TreeIs w T m pos){i:Nat}(hi:has m i=true):AttrsAt w (T.sl (pos i)).attrs (T.sl (pos i)).al:=by
 have h1:=hT.fits.lt i hi;rw[sl_at h1];exact hT.mem.attrs _ (List.getElem_mem h1)
theorem get_(T:TMem)(m:Model)(pos:Nat->Nat)(i:Nat)(w:World)(hT:TreeIs w T m pos)(hi:has m i=true) :
  Calls Tryz.prog 100 #[.pointer (some ⟨T.tb,0,none⟩),.int .i64 (hd T pos i)] w fun e w'=>e=.returned (.tuple #[nodeAgg (T.sl (pos i)) (T.sl (pos i)).attrs,.bool true])/\Below w.heap.size w w':=by
 have hF:=hT.fits;have hfew:=hT.mem.few;have hb:=hd_big hfew hF hi;have hp:=hd_pos (T:=T) (pos:=pos) i;have pI:=ptr_hd hfew hF hi 0;have hB1:=(Below.refl w.heap.size w).alloc (Nat.le_refl _) (.cells #[.int .i64 0,.string ⟨#[]⟩,.slice none 0 0,.string ⟨#[]⟩,.int .i64 0,.int .i64 0,.int .i64 0,.int .i64 0,.int .i64 0] 126);have Q1:=hi_ (fun W (hW:Below w.heap.size w W)=>find T (hd T pos i) W (hT.below hW).mem (by omega) (by omega));rw[pI]at Q1;have HC:=hi_ (fun W (hW:Below w.heap.size w W) k (hk:k<10)=>((hT.below hW).cell hi hk).1);have hlg:=(ownsRow_open hT.mem.row).1;obtain⟨ao,acap,hat⟩:=(hT.attrs hi).slice;unfold nodeAgg;generalize T.sl (pos i)=r at *;generalize r.al.length=an at *;generalize hd T pos i=z at *;clear hT pI
 go_enter Tryz.func100,Tryz.ntmps100
 go_wp2_with fail
 refine(Q1.out _ hB1).mono ?_;rintro e w2 ⟨rfl,hb2⟩;have HB2:=hi_ (hB1.trans (hb2.mono hB1.size));have c1:=HC.out w2 HB2.out 1 (by omega);have c2:=HC.out w2 HB2.out 2 (by omega);have c3:=HC.out w2 HB2.out 3 (by omega);have c4:=HC.out w2 HB2.out 4 (by omega);have c5:=HC.out w2 HB2.out 5 (by omega);have c6:=HC.out w2 HB2.out 6 (by omega);have c7:=HC.out w2 HB2.out 7 (by omega);have c8:=HC.out w2 HB2.out 8 (by omega);have c9:=HC.out w2 HB2.out 9 (by omega);simp only[scells,List.getElem?_cons_succ,List.getElem?_cons_zero]at c1 c2 c3 c4 c5 c6 c7 c8 c9;rw[hat]at c3;have HA:=hi_ hat;clear hat;have hb0:Blk w.heap.size #[.int .i64 0,.string ⟨#[]⟩,.slice none 0 0,.string ⟨#[]⟩,.int .i64 0,.int .i64 0,.int .i64 0,.int .i64 0,.int .i64 0] 126 w2:=(Blk.new w _ _).below hb2;have HB0:=hi_ hb0
 obtain⟨⟨k0,k1,k2,k3,k4,k5,k6,k7,k8⟩,⟨f0,f1,f2,f3,f4,f5,f6,f7,f8⟩⟩:=cells9 hb0;clear hb2 hb0;go_wp2_with fail
 have h9:=Blk.set9 HB0.out (.int .i64 (r.kind:Nat)) (.string ⟨r.name.toArray⟩) (.slice ao an acap) (.string ⟨r.data.toArray⟩) (.int .i64 r.parent) (.int .i64 r.first) (.int .i64 r.last) (.int .i64 r.prev) (.int .i64 r.next);have hb9:=below_set9 HB2.out (Nat.le_refl _) (.int .i64 (r.kind:Nat)) (.string ⟨r.name.toArray⟩) (.slice ao an acap) (.string ⟨r.data.toArray⟩) (.int .i64 r.parent) (.int .i64 r.first) (.int .i64 r.last) (.int .i64 r.prev) (.int .i64 r.next);obtain⟨⟨l0,l1,l2,l3,l4,l5,l6,l7,l8⟩,_⟩:=cells9 h9;change bodyPost _ _ _ _ _ (set9 w2 w.heap.size (.int .i64 (r.kind:Nat)) (.string ⟨r.name.toArray⟩) (.slice ao an acap) (.string ⟨r.data.toArray⟩) (.int .i64 r.parent) (.int .i64 r.first) (.int .i64 r.last) (.int .i64 r.prev) (.int .i64 r.next))
 generalize set9 w2 w.heap.size (.int .i64 (r.kind:Nat)) (.string ⟨r.name.toArray⟩) (.slice ao an acap) (.string ⟨r.data.toArray⟩) (.int .i64 r.parent) (.int .i64 r.first) (.int .i64 r.last) (.int .i64 r.prev) (.int .i64 r.next)=W9 at *;refine bodyPost_ret (v:=.tuple #[.agg #[.int .i64 (r.kind:Nat),.string ⟨r.name.toArray⟩,.slice ao an acap,.string ⟨r.data.toArray⟩,.int .i64 r.parent,.int .i64 r.first,.int .i64 r.last,.int .i64 r.prev,.int .i64 r.next],.bool true]) (by simp[results,Tryz.results100,go_sem,l0,l1,l2,l3,l4,l5,l6,l7,l8]) rfl ⟨by rw[HA.out],hb9⟩
end A
end
section
open Go.RowKit Go.Sort
namespace A
open H G
theorem path_(T:TMem)(m:Model)(pos:Nat->Nat)(j:Nat)(w:World)(hT:TreeIs w T m pos)(hj:has m j=true) :
  Calls Tryz.prog 97 #[.pointer (some ⟨T.tb,0,none⟩),.int .i64 (hd T pos j)] w fun e w'=>∃v,e=.returned v/\Below w.heap.size w w'/\OwnN w.heap.size w' v (pidx m j):=by
 have hF:=hT.fits;have hfew:=hT.mem.few;have HT:=hi_ hT;have hdl:=hF.wf.depth_le j;have QA:=hi_ (fun(z:Int) (h0:0<=z) (h1:z<=1000001000) W (hb:Below w.heap.size w W)=>at_ T z W (hT.below hb).mem (by omega) (by omega));have QI:=hi_ (fun(y p:Nat) (hy:has m y=true) (hp:(nd m y).parent=some p) W (hb:Below w.heap.size w W)=>index_some T m pos y p W (hT.below hb) hy hp);have hbj:=hd_big hfew hF hj;have hpj:=hd_pos (T:=T) (pos:=pos) j;have Q2:=hi_ (QA.out (hd T pos j) (by omega) hbj w (Below.refl _ w));have HJh:=hi_ hj;clear hT;generalize hpt:T.ptr 1 (hd T pos j)=pt at Q2;have HPT:=hi_ hpt;clear hpt;obtain⟨i0,hi0,hz0,hz1,hz2⟩:=info_parts infoInt
 go_enter Tryz.func97,Tryz.ntmps97
 go_wp2_with fail
 refine Q2.out.mono ?_;rintro e w2 ⟨rfl,hb2⟩;have HB2:=hi_ hb2;clear hb2 Q2;go_wp2_with fail
 go_loopw [1,5,6] (fun v1 v5 v6 wr=>∃(y:Nat) (d:List Nat),v1=.int .i64 (hd T pos y)/\v6=.pointer (T.ptr 1 (hd T pos y))/\Hid (has m y=true)/\Hid (pidx m j=pidx m y++d.reverse)/\Hid (d.length+depth m y=depth m j)/\Hid (Below w.heap.size w wr)/\Hid (OwnN w.heap.size wr v5 d)) (fun v1 _ _ _=>deep T m pos (intOfV v1))
 case atStart=>
  refine⟨j,[],rfl,by rw[HPT.out],HJh,hi_ (by simp),hi_ (by simp),HB2,hi_ ?_⟩;exact World.ownsRow_nil _ _ _ _
 case round=>
  obtain⟨y,d,rfl,rfl,HH,HC,HL,HU,HO⟩:=hrel;clear HJh HB2 HPT;have hy:=HH.out;obtain⟨e1,k5,hr,hD,hPh⟩:=up_step_facts HT.out HU.out hy;have e2:T.ptr 1 (hd T pos y)=some ⟨T.g,pos y*10+1,none⟩:=e1;have hdp:=hF.wf.depth_pos y;have hl2:d.length<=128:=by have:=HL.out;omega
  have HD2:Hid (d.length<=128):=hi_ hl2;have hform:∃ao cap,u5=.slice ao d.length cap:=by
   rcases HO.out.2 with⟨h1,h2⟩|⟨g,cap,cur,h1,_⟩
   ·exact⟨none,0,by rw[h1,h2]⟩
   ·exact⟨_,cap,h1⟩
  obtain⟨ao,cap,rfl⟩:=hform;rw[e2];clear e1 e2
  cases hp:(nd m y).parent with
  |none=>
   rw[hp]at k5;have k5':wr.cell? ⟨T.g,pos y*10+5,none⟩=some (.int .i64 0):=k5;have HE:Hid (pidx m j=d.reverse):=hi_ (by rw[HC.out,pidx_root hp];rfl);have hzz:natVs d=(d.map fun n:Nat=>(n:Int)).map (Value.int .i64):=by unfold natVs;simp
   have QR:Hid (Calls Tryz.prog 141 #[.slice ao d.length cap] wr fun e w'=>e=.returned (.tuple #[])/\Below w.heap.size w w'/\OwnN w.heap.size w' (.slice ao d.length cap) d.reverse):=hi_ (by
    have ho:=HO.out;unfold OwnN at ho
    by_cases hv:Value.slice ao d.length cap=.slice none 0 0
    ·have h0:d=[]:=by injection hv with _ h _;exact List.length_eq_zero_iff.1 h
     subst h0;refine(Tryz.slices_Reverse_int_empty ao cap wr).mono ?_;rintro e w' ⟨rfl,rfl⟩;exact⟨rfl,HU.out,ho⟩
    ·rw[hzz]at ho
     obtain⟨g,cap',hv',hb,hg,hn,hm,hl,hH⟩:=Go.Lib.holds_of_ownsRow ho hv;injection hv' with h1 _ h3
     subst h1;subst h3;have h:=Tryz.slices_Reverse_int g 0 cap (d.map fun n:Nat=>(n:Int)) wr hH (by simp;omega);rw[List.length_map]at h;refine h.mono ?_;rintro e w' ⟨rfl,n,rfl⟩;refine⟨rfl,Go.Lib.below_putRow HU.out hb,?_⟩;have h2:=Go.Lib.ownsRow_putRow (q:=n) ho (ys:=(d.map fun n:Nat=>(n:Int)).reverse) (by simp) (Nat.le_refl _);unfold OwnN;rw[List.length_reverse];have e5:natVs d.reverse=(((d.map fun n:Nat=>(n:Int)).reverse).take d.length).map (Value.int .i64):=by
      rw[List.take_of_length_le (by simp)];unfold natVs;simp
     rw[e5];exact h2)
   clear k5 hzz hPh hr hD hp;go_wp2_with fail
   refine QR.out.mono ?_;rintro e3 w3 ⟨rfl,hb3,ho3⟩;have HB3:=hi_ hb3;have HO3:=hi_ ho3;clear hb3 ho3;go_wp2_with fail
   go_ret
   exact⟨_,rfl,HB3.out,by rw[HE.out];exact HO3.out⟩
  |some p=>
   rw[hp]at k5 hr hD;have HP:=hi_ hp;have hph:=hPh p hp;have k5':wr.cell? ⟨T.g,pos y*10+5,none⟩=some (.int .i64 (hd T pos p)):=k5;have hne:¬hd T pos p=0:=by have:=hd_pos (T:=T) (pos:=pos) p;omega
   have hne2:(hd T pos p==0)=false:=beq_eq_false_iff_ne.2 hne;have Q3:=hi_ (QI.out y p hy hp wr HU.out);generalize hix:(nd m p).kids.idxOf y=ix at Q3;have HIX:=hi_ hix;have HPh:=hi_ hph;have HD:=hi_ hD;clear k5 hp hph hix hD hPh;generalize hzy:hd T pos y=zy at *;have HZY:=hi_ hzy;clear hzy;go_wp2_with fail
   refine Q3.out.mono ?_;rintro e3 w3 ⟨rfl,hb3⟩;have HU3:=bt_ HU hb3;have HO3:=hi_ (show w3.ownsRow w.heap.size 3 1 (.slice ao d.length cap) d.length (natVs d) by
    refine⟨HO.out.1,?_⟩
    rcases HO.out.2 with hn|⟨g,cap,cur,hv,hb,hgg,rest⟩
    ·exact Or.inl hn
    ·exact Or.inr ⟨g,cap,cur,hv,hb,(hb3.block g (lt_of_block hgg)).trans hgg,rest⟩)
   have hsz3:=HU3.out.size;go_wp2_with (at_builtin;refine wpList_append_lies _ rfl _ _ 39 rfl w.heap.size 3 i0 _ 1 8 Tryz.underlying39 hi0 hz0 hz1 hz2 rfl (by decide) (.slice ao d.length cap) d.length (natVs d) rfl (HO3.out.alloc _) ⟨w3.heap.size,0,none⟩ 1 1 [.int .i64 ix] rfl rfl ?c1 ?c2 ?c3 ?c4 ?c5 ?c6 (w3.heap.size+1) ?c7 ?_)
   case c1=>exact World.news_of_block (heap_alloc_new w3 (.cells #[.int .i64 ix] 3))
   case c2=>simp[Value.oneCell']
   case c3=>omega
   case c4=>unfold maxLen;omega
   case c5=>omega
   case c6=>simp;omega
   case c7=>simp
   intro gg cap2 w5 hown5 hgrow hat5 hlt5;have hlen6:(d++[ix]).length=d.length+1:=by simp
   have hv6:natVs (d++[ix])=natVs d++[.int .i64 (ix:Nat)]:=by unfold natVs;simp
   have HO5:Hid (OwnN w.heap.size w5 (.slice (some ⟨gg,0,none⟩) (d.length+1) cap2) (d++[ix])):=hi_ (by
    unfold OwnN;rw[hlen6,hv6];exact hown5)
   have HB5:Hid (Below w.heap.size w w5):=hi_ ((HU3.out.alloc hsz3 _).grown hgrow (by simp;omega) (fun q hq=>(HO3.out.lt q hq).1));have k5b:=(up_step_facts HT.out HB5.out hy).2.1;rw[HP.out]at k5b;have k55:w5.cell? ⟨T.g,pos y*10+5,none⟩=some (.int .i64 (hd T pos p)):=k5b;have Q4:=hi_ (QA.out (hd T pos p) hr.1 hr.2 w5 HB5.out);clear k5' k5b hown5 hgrow hat5 hv6 hlen6;go_wp2_with fail
   refine Q4.out.mono ?_;rintro e4 w6 ⟨rfl,hb6⟩;have HU6:=bt_ HB5 hb6;have HO6:Hid (OwnN w.heap.size w6 (.slice (some ⟨gg,0,none⟩) (d.length+1) cap2) (d++[ix])):=hi_ (by
    refine⟨HO5.out.1,?_⟩
    rcases HO5.out.2 with hn|⟨g,cap,cur,hv,hb,hgg,rest⟩
    ·exact Or.inl hn
    ·exact Or.inr ⟨g,cap,cur,hv,hb,(hb6.block g (lt_of_block hgg)).trans hgg,rest⟩)
   go_wp2_with fail
   go_roundw
   case rel=>
    refine⟨p,d++[ix],rfl,rfl,HPh,hi_ ?_,hi_ ?_,HU6,HO6⟩
    ·rw[HC.out,hF.wf.pidx_step HP.out,HIX.out];simp
    ·have h1:=HL.out
     have h2:=hF.wf.depth_step HP.out
     simp;omega
   case measure=>rw[<-HZY.out]at *;exact HD.out
end A
end
end Go.Proofs.YtinphfpdfodkkaaGreatDoor
