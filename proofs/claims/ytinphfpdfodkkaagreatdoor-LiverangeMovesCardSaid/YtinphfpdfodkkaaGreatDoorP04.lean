/- Texts. -/
import Derived.Test.YtinphfpdfodkkaaGreatDoorP01
import Derived.Lib.IndexAny
import Derived.Deep.DeepCutAuto
import Derived.WalkMore
import Derived.Lib.SliceRun
import Derived.Lib.OwnBridge
import Derived.Maps.Own
import Derived.Maps.Views
import Derived.RangeFuncNested
import Derived.RangeFuncBound
import Derived.RangeFuncCalls
import Derived.RangeFuncLeaves
import Derived.Shelf.Abstract
import Derived.Shelf.RegionOpen
import Derived.OwnWalkIn
import Derived.TacticsInMore
import Derived.LoopNIn
import Derived.LoopIn
set_option linter.unusedVariables false
set_option linter.unusedSimpArgs false
set_option maxHeartbeats 8000000
set_option maxRecDepth 100000
namespace Go.Proofs.YtinphfpdfodkkaaGreatDoor
section
open Go.RowKit Go.Sort
namespace A
open H
theorem ld_(T:am_)(h:Int):(T.ptr 0 h=none/\T.ptr 1 h=none)\/∃i,T.ptr 0 h=some ⟨T.g,i*10,none⟩/\T.ptr 1 h=some ⟨T.g,i*10+1,none⟩:=by
 unfold am_.ptr
 cases T.at_ h with
 |none=>exact Or.inl ⟨rfl,rfl⟩
 |some i=>exact Or.inr ⟨i,rfl,rfl⟩
theorem at1(T:am_)(h:Int)(w:World)(hT:al_ w T)(hh:-9223372036854775808<=h)(hh2:h<=9223372036854775807) :
  Calls Tryz.prog 136 #[.pointer (some ⟨T.tb,0,none⟩),.int .i64 h] w fun e w'=>e=.returned (.pointer (T.ptr 1 h))/\Below w.heap.size w w':=by
 have QF:=hi_ (find T h w hT hh hh2);have HC:=hi_ (ld_ T h);clear hT;generalize T.ptr 0 h=P0 at *;generalize T.ptr 1 h=P1 at *
 go_enter Tryz.func136,Tryz.ntmps136
 go_wp2_with fail
 refine QF.out.mono ?_;rintro e w2 ⟨rfl,hb⟩
 rcases HC.out with⟨rfl,e2⟩|⟨i,rfl,e2⟩
 ·go_wp2_with fail
  go_ret
  exact⟨eR_ e2.symm,hb⟩
 ·go_wp2_with fail
  go_ret
  exact⟨eR_ e2.symm,hb⟩
theorem at_(T:am_)(h:Int)(w:World)(hT:al_ w T)(hh:-9223372036854775808<=h)(hh2:h<=9223372036854775807) :
  Calls Tryz.prog 83 #[.pointer (some ⟨T.tb,0,none⟩),.int .i64 h] w fun e w'=>e=.returned (.pointer (T.ptr 1 h))/\Below w.heap.size w w':=by
 have QF:=hi_ (at1 T h w hT hh hh2);clear hT;generalize T.ptr 1 h=P1 at *
 go_enter Tryz.func83,Tryz.ntmps83
 go_wp2_with fail
 refine QF.out.mono ?_;rintro e w2 ⟨rfl,hb⟩;go_wp2_with fail
 go_ret
 exact⟨rfl,hb⟩
end A
end
section
open Go.RowKit Go.Sort
namespace R
open H G A
structure bX_ where
 n:G.Node
 av:Value
 kv:Value
def cm_:Option Nat->Int
 |none=>-1
 |some p=>p
def bS_(x:bX_):List Value:=[.int .i64 x.n.kind,.string ⟨x.n.name.toArray⟩,x.av,.string ⟨x.n.data.toArray⟩,.int .i64 (cm_ x.n.parent),x.kv,.bool x.n.gone]
theorem aT_(x:bX_):(bS_ x).length=7:=rfl
structure aF_ where
 mb:Nat
 g:Nat
 cap:Nat
 nodes:List bX_
 B:Nat
def aF_.m(M:aF_):aa_:=M.nodes.map (·.n)
def n7_:bX_:=⟨G.blank,.slice none 0 0,.slice none 0 0⟩
def aF_.at_(M:aF_)(i:Nat):bX_:=M.nodes.getD i n7_
structure ab_(w:World)(M:aF_):Prop where
 blk:Blk M.mb #[.slice (some ⟨M.g,0,none⟩) M.nodes.length M.cap] 102 w
 row:ac_ bS_ M.B 105 7 w (.slice (some ⟨M.g,0,none⟩) M.nodes.length M.cap) M.nodes
 few:M.nodes.length<=1000000
 bb:M.B<=M.mb
 kids:∀x,x∈M.nodes->b4_ M.B w x.kv x.n.kids
 attrs:∀x,x∈M.nodes->ac_ ai_ M.B 143 2 w x.av x.n.attrs
 kapart:∀i j,i<M.nodes.length->j<M.nodes.length->i≠j->∀g,(M.at_ i).kv.ownBlock=some g->(M.at_ j).kv.ownBlock≠some g
 aapart:∀i j,i<M.nodes.length->j<M.nodes.length->i≠j->∀g,(M.at_ i).av.ownBlock=some g->(M.at_ j).av.ownBlock≠some g
section
variable {w w':World} {M:aF_}
theorem aF_.m_len(M:aF_):M.m.length=M.nodes.length:=by unfold aF_.m;simp
theorem aF_.nd_at(M:aF_)(i:Nat):nd M.m i=(M.at_ i).n:=by
 unfold aF_.m aF_.at_ nd;rw[List.getD_eq_getElem?_getD,List.getD_eq_getElem?_getD,List.getElem?_map]
 cases M.nodes[i]? with
 |none=>rfl
 |some x=>rfl
theorem aF_.at_mem{i:Nat}(h:i<M.nodes.length):M.at_ i=M.nodes[i]/\M.at_ i∈M.nodes:=by
 have:M.at_ i=M.nodes[i]:=by unfold aF_.at_;simp[List.getD,h]
 exact⟨this,by rw[this];exact List.getElem_mem h⟩
theorem ab_.below(h:ab_ w M)(b:Below w.heap.size w w'):ab_ w' M:=
 ⟨h.blk.below b,own_below h.row b,h.few,h.bb,fun x hx=>own_below (h.kids x hx) b,fun x hx=>own_below (h.attrs x hx) b,h.kapart,h.aapart⟩
def aF_.foot(M:aF_)(k:Nat):Prop:=k=M.mb\/k=M.g\/∃x∈M.nodes,x.kv.ownBlock=some k\/x.av.ownBlock=some k
theorem ab_.frame{S:Nat->Prop}(h:ab_ w M)(f:H.Frame S w w')(hn:∀k,M.foot k->¬S k):ab_ w' M:=
 ⟨h.blk.frame f (hn _ (Or.inl rfl)),ah_ h.row f (fun g hg=>hn g (Or.inr (Or.inl (by simpa[Value.ownBlock]using hg.symm)))),h.few,h.bb,
  fun x hx=>ah_ (h.kids x hx) f (fun g hg=>hn g (Or.inr (Or.inr ⟨x,hx,Or.inl hg⟩))),fun x hx=>ah_ (h.attrs x hx) f (fun g hg=>hn g (Or.inr (Or.inr ⟨x,hx,Or.inr hg⟩))),h.kapart,h.aapart⟩
theorem ab_.top(h:ab_ w M):w.cell? ⟨M.mb,0,none⟩=some (.slice (some ⟨M.g,0,none⟩) M.nodes.length M.cap)/\M.mb<w.heap.size/\M.g<w.heap.size:=
 ⟨(ad_ h.blk).1 0,h.blk.lt,(ae_ h.row).1⟩
theorem ab_.cell(h:ab_ w M){i:Nat}(hi:i<M.nodes.length) :
  w.cell? ⟨M.g,i*7,none⟩=some (.int .i64 ((nd M.m i).kind:Nat))/\w.cell? ⟨M.g,i*7+1,none⟩=some (.string ⟨(nd M.m i).name.toArray⟩)/\w.cell? ⟨M.g,i*7+2,none⟩=some (M.at_ i).av ∧
  w.cell? ⟨M.g,i*7+3,none⟩=some (.string ⟨(nd M.m i).data.toArray⟩)/\w.cell? ⟨M.g,i*7+4,none⟩=some (.int .i64 (cm_ (nd M.m i).parent))/\w.cell? ⟨M.g,i*7+5,none⟩=some (M.at_ i).kv/\w.cell? ⟨M.g,i*7+6,none⟩=some (.bool (nd M.m i).gone):=by
 have hc:=fun k (hk:k<7)=>(ac_.cell aT_ h.row hi (k:=k) hk).1;rw[M.nd_at,(aF_.at_mem hi).1];exact⟨hc 0 (by omega),hc 1 (by omega),hc 2 (by omega),hc 3 (by omega),hc 4 (by omega),hc 5 (by omega),hc 6 (by omega)⟩
theorem ab_.kidsRow(h:ab_ w M){i:Nat}(hi:i<M.nodes.length):b4_ M.B w (M.at_ i).kv (nd M.m i).kids:=by
 rw[M.nd_at];exact h.kids _ (aF_.at_mem hi).2
theorem ab_.attrsRow(h:ab_ w M){i:Nat}(hi:i<M.nodes.length):ac_ ai_ M.B 143 2 w (M.at_ i).av (nd M.m i).attrs:=by
 rw[M.nd_at];exact h.attrs _ (aF_.at_mem hi).2
theorem b4_.form{base:Nat}{v:Value}{l:List Nat}(h:b4_ base w v l):∃ao cap,v=.slice ao l.length cap/\∀i x,l[i]?=some x->∃g,ao=some ⟨g,0,none⟩/\g<w.heap.size/\w.cell? ⟨g,i,none⟩=some (.int .i64 (x:Nat)):=by
 unfold b4_ at h
 rcases h.2 with⟨h1,h2⟩|⟨g,cap,cur,h1,hb,hg,hn,hm,hc,ht⟩
 ·refine⟨none,0,by rw[h1,h2],fun i x hx=>?_⟩
  rw[List.length_eq_zero_iff.1 h2]at hx
  cases hx
 ·refine⟨_,cap,h1,fun i x hx=>⟨g,rfl,lt_of_block hg,?_⟩⟩
  have hlt:i<l.length:=by
   rcases Nat.lt_or_ge i l.length with h2|h2
   ·exact h2
   ·rw[List.getElem?_eq_none h2]at hx;cases hx
  rw[h1]at h;have:=((ae_ h).2.2.2 i (by rw[h.1];omega)).1;rw[this];unfold aE_;rw[List.getElem?_map,hx];rfl
end
end R
end
section
open Go.RowKit
namespace N
theorem jO_{B:Nat}{w w':World}(h:Below B w w')(n:Nat):Below B w (w'.drewN n):=⟨h.os,h.tape,h.output,h.size,h.block⟩
def Asc(s:ByteArray):Prop:=∀(j:Nat) (h:j<s.size),(s[j]'h).toNat<128
theorem noByte{l:List UInt8}{b:UInt8}(hl:∀x∈l,x.toNat<128)(hb:128<=b.toNat):Lib.indexByte l b=-1:=by
 induction l with
 |nil=>rfl
 |cons a t ih=>
  have h1:=hl a (by simp);have h2:¬a=b:=fun e=>by rw[e]at h1;omega
  rw[Lib.indexByte,ih (fun x hx=>hl x (by simp[hx]))];simp[h2]
def RelR(s:ByteArray)(w1:World)(wr:World):Prop:=∃pos:Nat,pos<=s.size/\wr.heap[w1.heap.size]?=some (.stringIter s pos)/\Below w1.heap.size w1 wr
def eu_(w:World)(b:Nat):Nat:=match w.heap[b]? with|some (.stringIter s pos)=>s.size-pos|_=>0
theorem gi_(s:ByteArray)(w:World)(hs:Asc s)(hsz:s.size<=100) :
  Calls Tryz.prog 170 #[.string s,.int .i32 65533] w fun e w'=>e=.returned (.int .i64 (-1))/\Below w.heap.size w w':=by
 go_enter Tryz.func170,Tryz.ntmps170
 go_wp2_with fail
 go_loopw [4] (fun v wr=>v=.int .i64 0/\RelR s w wr) (fun _ wr=>eu_ wr w.heap.size)
 case atStart=>exact⟨rfl,0,Nat.zero_le _,by simpa using World.iter_heap w s 0,(Below.refl _ w).alloc (nl_) _⟩
 case round=>
  obtain⟨rfl,pos,hp,hit,hB⟩:=hrel
  by_cases hlt:pos<s.size
  ·have hnx:=fun ty=>Lib.run_next_ascii_at (P:=Tryz.prog) wr w.heap.size s pos ty hit hlt (hs pos hlt)
   have hlt2:=hs pos hlt;have hit2:=Lib.iterAt_heap wr w.heap.size s pos (pos+1) hit;have hB2:=Lib.below_iterAt hB (k:=w.heap.size) (nl_) s (pos+1);generalize s[pos]=c at *;have t1:((c.toNat:Int)==65533)=false:=bn_ (by omega);have t2:¬(c.toNat:Int)=65533:=by omega
   have HM:Hid (eu_ (wr.iterAt w.heap.size s (pos+1)) w.heap.size<eu_ wr w.heap.size):=hi_ (by unfold eu_;rw[hit2,hit];show s.size-(pos+1)<s.size-pos;omega);clear hlt2;go_wp2_with fail
   go_roundw
   case rel=>exact⟨rfl,pos+1,by omega,hit2,hB2⟩
   case measure=>exact HM.out
  ·have hnx:=fun ty=>Lib.run_next_end_at (P:=Tryz.prog) wr w.heap.size s pos ty hit hlt
   go_wp2_with fail
   go_ret
   exact⟨rfl,hB⟩
def Good(E:ByteArray):Prop:=∃k:Nat,∃h:E.size=k+1,k<=3/\128<=(E[k]'(by omega)).toNat
theorem ne_(r:Nat)(h1:128<=r)(h2:r<=1114111):Good (Utf8.encode (r:Int)):=by
 have key:∀c:Nat,128<=c->Good (if c<0x80 then⟨#[UInt8.ofNat c]⟩else if c<0x800 then⟨#[UInt8.ofNat (0xC0+c / 64),UInt8.ofNat (0x80+c % 64)]⟩else if c<0x10000 then⟨#[UInt8.ofNat (0xE0+c / 4096),UInt8.ofNat (0x80+c / 64 % 64),UInt8.ofNat (0x80+c % 64)]⟩ else⟨#[UInt8.ofNat (0xF0+c / 262144),UInt8.ofNat (0x80+c / 4096 % 64),UInt8.ofNat (0x80+c / 64 % 64),UInt8.ofNat (0x80+c % 64)]⟩):=by
  intro c hc;have hlast:128<=(UInt8.ofNat (0x80+c % 64)).toNat:=by
   rw[UInt8.toNat_ofNat'];omega
  rw[if_neg (by omega)]
  split
  ·exact⟨1,rfl,by omega,hlast⟩
  ·split
   ·exact⟨2,rfl,by omega,hlast⟩
   ·exact⟨3,rfl,by omega,hlast⟩
 unfold Utf8.encode;refine key _ ?_
 split
 ·omega
 ·unfold Utf8.runeError;omega
theorem gh_(s:ByteArray)(r:Nat)(w:World)(hs:Asc s)(hsz:s.size<=100)(h1:128<=r)(h2:r<=1114111)(h3:r≠65533) :
  Calls Tryz.prog 170 #[.string s,.int .i32 r] w fun e w'=>e=.returned (.int .i64 (-1))/\Below w.heap.size w w':=by
 have t0:(0:Int)<=(r:Int):=by omega
 have t1:¬(r:Int)<128:=by omega
 have t2:((r:Int)==65533)=false:=bn_ (by omega);have t3:¬(r:Int)=65533:=by omega
 have QV:=hi_ (Tryz.utf8_ValidRune r w);generalize Lib.validRune r=vr at *
 go_enter Tryz.func170,Tryz.ntmps170
 go_wp2_with fail
 refine QV.out.mono ?_;rintro e w2 ⟨rfl,rfl⟩
 cases vr with
 |false=>
  go_wp2_with fail
  go_ret
  exact⟨rfl,br_⟩
 |true=>
  have HE:=hi_ (ne_ r h1 h2);have HAsc:=hi_ hs;clear QV hs;go_wp2_with fail
  go_step3
  go_wp2_with fail
  obtain⟨E,hE⟩:∃E,E=Utf8.encode (r:Int):=⟨_,rfl⟩;rw[<-hE]at HE ⊢;clear hE;obtain⟨k,hk,hk4,hkb⟩:=HE.out;have hz:wrap64 ((E.size:Int)-1)=(k:Int):=by unfold wrap64;omega
  rw[hz];have hkE:(k:Int)<(E.size:Int):=by omega
  have HEs:=hi_ hk;have QB:=hi_ (fun(x:ByteArray) (c:UInt8) W=>(Tryz.strings_IndexByte x (c.toNat:Int) W).mono (R':=fun e w'=>e=.returned (.int .i64 (Lib.indexByte x.data.toList c))/\W=w') (fun _ _ h=>⟨by rw[h.1];simp,h.2.symm⟩))
  go_loopw [9] (fun v9 wr=>v9=.int .i64 k/\wr=w2) (fun _ _=>0)
  case atStart=>exact⟨rfl,rfl⟩
  case round=>
   obtain⟨rfl,rfl⟩:=hrel
   by_cases hks:k<s.size
   ·have hksI:(k:Int)<(s.size:Int):=by omega
    have hcs:=HAsc.out k hks;have hkE':k<E.size:=by omega
    have hne:((s[k]'hks).toNat:Int)≠((E[k]'hkE').toNat:Int):=by omega
    have hne2:(((s[k]'hks).toNat:Int)==((E[k]'hkE').toNat:Int))=false:=bn_ hne;have wk:wrap64 ((k:Int)+1)=(k:Int)+1:=by unfold wrap64;omega
    have wk2:IntKind.i64.wrap ((k:Int)+1)=(k:Int)+1:=IntWalk.i64_in _ (by omega);have hk0:(0:Int)<=(k:Int)+1:=by omega
    have hk1:(k:Int)+1<=(s.size:Int):=by omega
    have HNB:Hid (∀j,Lib.indexByte (s.extract j s.size).data.toList (E[k]'hkE')=-1):=hi_ (fun j=>noByte (fun x hx=>by
     have hx2:x∈s.data.toList:=by
      rw[ByteArray.data_extract,Array.toList_extract]at hx;exact List.mem_of_mem_drop (List.mem_of_mem_take hx)
     obtain⟨i,hi,rfl⟩:=List.mem_iff_getElem.1 hx2;exact HAsc.out i (by simpa using hi)) hkb)
    have Q1:∀W:World,Calls Tryz.prog 153 #[.string (s.extract (k+1) s.size),.int .u8 ((E[k]'hkE').toNat:Int)] W fun e w'=>e=.returned (.int .i64 (-1))/\W=w':=fun W=>by
     have h:=QB.out (s.extract (k+1) s.size) (E[k]'hkE') W;rw[HNB.out]at h;exact h
    have Q:=hi_ Q1;clear hkb hk Q1 HNB QB;go_wp2_with fail
    go_step3
    go_wp2_with fail
    go_quiet (fail)
    go_wp2_with fail
    have HBw:=hi_ (jO_ (Below.refl wr.heap.size wr) nq);generalize wr.drewN nq=wz at *
    go_quiet ((go_at_call 153;exact H.mL_ (Q.out _)))
    go_wp2_with fail
    rw[Exit.noGoto_ret];change bodyPost _ _ (fun e w'=>e=Ending.returned (Value.int IntKind.i64 (-1))/\Below wr.heap.size wr w') Exit.ret _ _;go_ret
    exact⟨rfl,jO_ HBw.out _⟩
   ·have hksI:¬(k:Int)<(s.size:Int):=by omega
    go_wp2_with fail
    go_ret
    exact⟨rfl,br_⟩
theorem hK_(s:ByteArray)(r:Nat)(w:World)(hs:Asc s)(hsz:s.size<=100)(h1:128<=r)(h2:r<=1114111) :
  Calls Tryz.prog 170 #[.string s,.int .i32 r] w fun e w'=>e=.returned (.int .i64 (-1))/\Below w.heap.size w w':=by
 by_cases h3:r=65533
 ·subst h3;exact gi_ s w hs hsz
 ·exact gh_ s r w hs hsz h1 h2 h3
end N
end
section
open Go.RowKit Go.Sort
namespace A
open H G
def aS_:em_:=⟨false,0,[],.slice none 0 0,[],[],0,0,0,0,0⟩
def am_.sl(T:am_)(s:Nat):em_:=T.slots.getD s aS_
def hd(T:am_)(pos:Nat->Nat)(i:Nat):Int:=handle T.bs T.st (pos i)
def hdO(T:am_)(pos:Nat->Nat):Option Nat->Int
 |none=>0
 |some i=>hd T pos i
def ag_(m:aa_)(i:Nat):Option Nat:=match (nd m i).parent with|none=>none|some p=>prevAt2 (nd m p).kids ((nd m p).kids.idxOf i)
 where prevAt2 (l:List Nat) (i:Nat):Option Nat:=if i=0 then none else l[i-1]?
def ap_(m:aa_)(i:Nat):Option Nat:=match (nd m i).parent with|none=>none|some p=>(nd m p).kids[(nd m p).kids.idxOf i+1]?
structure Fits(T:am_)(m:aa_)(pos:Nat->Nat):Prop where
 wf:WF m
 lt:∀i,has m i=true->pos i<T.slots.length
 used:∀i,has m i=true->(T.sl (pos i)).used=true
 kind:∀i,has m i=true->(T.sl (pos i)).kind=(nd m i).kind
 name:∀i,has m i=true->(T.sl (pos i)).name=(nd m i).name
 attrs:∀i,has m i=true->(T.sl (pos i)).al=(nd m i).attrs
 data:∀i,has m i=true->(T.sl (pos i)).data=(nd m i).data
 parent:∀i,has m i=true->(T.sl (pos i)).parent=hdO T pos (nd m i).parent
 first:∀i,has m i=true->(T.sl (pos i)).first=hdO T pos (nd m i).kids.head?
 last:∀i,has m i=true->(T.sl (pos i)).last=hdO T pos (nd m i).kids.getLast?
 prev:∀i,has m i=true->(T.sl (pos i)).prev=hdO T pos (ag_ m i)
 next:∀i,has m i=true->(T.sl (pos i)).next=hdO T pos (ap_ m i)
 inj:∀i j,has m i=true->has m j=true->pos i=pos j->i=j
 onto:∀s,s<T.slots.length->(T.sl s).used=true->∃i,has m i=true/\pos i=s
 frees:T.frees.Nodup/\∀s,s∈T.frees->s<T.slots.length/\(T.sl s).used=false
 live:T.live=(((List.range m.length).filter (has m)).length:Nat)
 root:T.root=hd T pos 0
structure aj_(w:World)(T:am_)(m:aa_)(pos:Nat->Nat):Prop where
 mem:al_ w T
 fits:Fits T m pos
section
variable {T:am_} {m:aa_} {pos:Nat->Nat}
theorem aP_(i:Nat):1<=hd T pos i:=eW_ _ _ _
theorem bA_(hT:T.slots.length<=1000000)(F:Fits T m pos){i:Nat}(hi:has m i=true):hd T pos i<=1000001000:=by
 have h1:=F.lt i hi;have h2:=cO_ T.bs;have h3:=cO_ T.st;have h4:nrm T.st*(pos i:Int)<=1000*1000000:=Int.mul_le_mul h3.2 (by omega) (by omega) (by omega);unfold hd handle;omega
theorem gX_{s:Nat}(h:s<T.slots.length):T.sl s=T.slots[s]:=by unfold am_.sl;simp[List.getD,h]
theorem at_hd(hT:T.slots.length<=1000000)(F:Fits T m pos){i:Nat}(hi:has m i=true):T.at_ (hd T pos i)=some (pos i):=by
 have h1:=F.lt i hi;have h2:=F.used i hi;rw[gX_ h1]at h2;unfold am_.at_ hd;rw[dv_ (by omega)];dsimp only;rw[dif_pos h1,if_pos h2]
theorem bH_(hT:T.slots.length<=1000000)(F:Fits T m pos){i:Nat}(hi:has m i=true)(o:Nat):T.ptr o (hd T pos i)=some ⟨T.g,pos i*10+o,none⟩:=by
 unfold am_.ptr;rw[at_hd hT F hi];rfl
theorem jg_(o:Nat):T.ptr o 0=none:=by
 unfold am_.ptr am_.at_
 cases h:dA_ T.bs T.st 0 with
 |none=>rfl
 |some i=>
  have h1:=(gv_ h).1;have h2:=eW_ T.bs T.st i;omega
theorem mO_(F:Fits T m pos){z:Int}(hz:∀i,has m i=true->hd T pos i≠z)(o:Nat):T.ptr o z=none:=by
 unfold am_.ptr am_.at_
 cases h:dA_ T.bs T.st z with
 |none=>rfl
 |some s=>
  dsimp only
  by_cases h1:s<T.slots.length
  ·rw[dif_pos h1]
   by_cases h2:T.slots[s].used=true
   ·obtain⟨i,hi,hp⟩:=F.onto s h1 (by rw[gX_ h1];exact h2)
    have:=(gv_ h).1;exact absurd (by unfold hd;rw[hp,this]) (hz i hi)
   ·rw[if_neg h2];rfl
  ·rw[dif_neg h1];rfl
theorem dB_(F:Fits T m pos){i j:Nat}(hi:has m i=true)(hj:has m j=true)(h:hd T pos i=hd T pos j):i=j:=by
 have h3:=cO_ T.st;refine F.inj i j hi hj ?_;unfold hd handle at h;have h4:nrm T.st*(pos i:Int)=nrm T.st*(pos j:Int):=by omega
 have:=Int.eq_of_mul_eq_mul_left (by omega) h4;omega
theorem aj_.cell{w:World}(h:aj_ w T m pos){i:Nat}(hi:has m i=true){k:Nat}(hk:k<10):w.cell? ⟨T.g,pos i*10+k,none⟩=(a5_ (T.sl (pos i)))[k]?/\w.frozen? ⟨T.g,pos i*10+k,none⟩=false:=by
 have h1:=h.fits.lt i hi;rw[gX_ h1];exact ac_.cell bq_ h.mem.row h1 hk
theorem aj_.below{w w':World}(h:aj_ w T m pos)(b:Below w.heap.size w w'):aj_ w' T m pos:=⟨h.mem.below b,h.fits⟩
theorem bC_(F:Fits T m pos){i p:Nat}(hi:has m i=true)(hp:(nd m i).parent=some p):has m p=true:=by
 have:=F.wf.gone i p hp;unfold has at hi ⊢;rw[<-this];exact hi
def deep(T:am_)(m:aa_)(pos:Nat->Nat)(z:Int):Nat:=match (List.range m.length).find? (fun y=>has m y && decide (hd T pos y=z))with|some y=>depth m y|none=>0
theorem hg_(F:Fits T m pos){i:Nat}(hi:has m i=true):deep T m pos (hd T pos i)=depth m i:=by
 unfold deep
 cases h:(List.range m.length).find? (fun y=>has m y && decide (hd T pos y=hd T pos i)) with
 |none=>
  have:=List.find?_eq_none.1 h i (List.mem_range.2 (aR_ hi));simp[hi]at this
 |some y=>
  have h1:=List.find?_some h;rw[Bool.and_eq_true,decide_eq_true_eq]at h1;rw[dB_ F h1.1 hi h1.2]
theorem h5_:deep T m pos 0=0:=by
 unfold deep
 cases h:(List.range m.length).find? (fun y=>has m y && decide (hd T pos y=0)) with
 |none=>rfl
 |some y=>
  have h1:=List.find?_some h;rw[Bool.and_eq_true,decide_eq_true_eq]at h1;have:=aP_ (T:=T) (pos:=pos) y;omega
end
def aN_(v:Value):Int:=match v with | .int _ z=>z|_=>0
theorem dN_(T:am_)(m:aa_)(pos:Nat->Nat)(i j:Nat)(w:World)(hT:aj_ w T m pos)(hi:has m i=true)(hj:has m j=true) :
  Calls Tryz.prog 40 #[.pointer (some ⟨T.tb,0,none⟩),.int .i64 (hd T pos i),.int .i64 (hd T pos j)] w fun e w'=>e=.returned (.bool (contains m i j))/\Below w.heap.size w w':=by
 have hF:=hT.fits;have hfew:=hT.mem.few;have HT:=hi_ hT;have QA:=hi_ (fun(z:Int) (h0:0<=z) (h1:z<=1000001000) W (hb:Below w.heap.size w W)=>at_ T z W (hT.below hb).mem (by omega) (by omega));have hbi:=bA_ hfew hF hi;have hbj:=bA_ hfew hF hj;have hpi:=aP_ (T:=T) (pos:=pos) i;have hpj:=aP_ (T:=T) (pos:=pos) j;have pI:=bH_ hfew hF hi 1;have pJ:=bH_ hfew hF hj 1;have Q1:=hi_ (QA.out (hd T pos i) (by omega) hbi w (Below.refl _ w));rw[pI]at Q1;have HJ0:Hid (contains m i j=contains m i j):=hi_ rfl;have HJh:=hi_ hj;clear hT
 go_enter Tryz.func40,Tryz.ntmps40
 go_wp2_with fail
 refine Q1.out.mono ?_;rintro e w1 ⟨rfl,hb1⟩;have HB1:=hi_ hb1;have Q2:=hi_ (QA.out (hd T pos j) (by omega) hbj w1 hb1);rw[pJ]at Q2;clear hb1 Q1;go_wp2_with fail
 refine Q2.out.mono ?_;rintro e w2 ⟨rfl,hb2⟩;have HB2:=bt_ HB1 hb2;clear hb2 Q2;go_wp2_with fail
 have HB0:Hid (Below w.heap.size w w2):=HB2;clear HB1
 go_loopw [2,7] (fun v2 v7 wr=>∃o:Option Nat,v2=.int .i64 (hdO T pos o)/\v7=.pointer (T.ptr 1 (hdO T pos o))/\Hid (∀y,o=some y->has m y=true)/\Hid (contains m i j=match o with|some y=>contains m i y|none=>false)/\Hid (Below w.heap.size w wr)) (fun v2 _ _=>deep T m pos (aN_ v2))
 case atStart=>exact⟨some j,rfl,by show Value.pointer _=.pointer (T.ptr 1 (hd T pos j));rw[pJ],hi_ (fun y hy=>by injection hy with hy;rw[<-hy];exact HJh.out),hi_ rfl,HB0⟩
 case round=>
  obtain⟨o,rfl,rfl,HH,HC,HU⟩:=hrel;clear HJ0 HB0 HJh HB2 pJ
  cases o with
  |none=>
   have e1:T.ptr 1 (hdO T pos none)=none:=jg_ 1;have HF:Hid (contains m i j=false):=HC;rw[e1];go_wp2_with fail
   go_ret
   exact⟨by rw[HF.out];rfl,HU.out⟩
  |some y=>
   have hy:=HH.out y rfl;have hTr:=HT.out.below HU.out;have e1:T.ptr 1 (hdO T pos (some y))=some ⟨T.g,pos y*10+1,none⟩:=bH_ hfew hF hy 1;have HC2:Hid (contains m i j=contains m i y):=HC;have hcell:=(hTr.cell hy (k:=5) (by omega)).1;have k5:wr.cell? ⟨T.g,pos y*10+5,none⟩=some (.int .i64 (hdO T pos (nd m y).parent)):=by
    rw[hcell,<-hF.parent y hy];rfl
   have hr:0<=hdO T pos (nd m y).parent/\hdO T pos (nd m y).parent<=1000001000:=by
    cases hp:(nd m y).parent with
    |none=>exact⟨Int.le_refl 0,by show(0:Int)<=1000001000;omega⟩
    |some p=>exact⟨by have:=aP_ (T:=T) (pos:=pos) p;show 0<=hd T pos p;omega,bA_ hfew hF (bC_ hF hy hp)⟩
   have Q3:=hi_ (QA.out (hdO T pos (nd m y).parent) hr.1 hr.2 wr HU.out);have HD:Hid (deep T m pos (hdO T pos (nd m y).parent)<deep T m pos (hd T pos y)):=hi_ (by
    rw[hg_ hF hy]
    cases hp:(nd m y).parent with
    |none=>show deep T m pos 0<_;rw[h5_];have:=hF.wf.depth_pos y;omega
    |some p=>
     show deep T m pos (hd T pos p)<_;rw[hg_ hF (bC_ hF hy hp),hF.wf.depth_step hp];omega)
   rw[e1];have hzz:∃z,z=hdO T pos (some y):=⟨_,rfl⟩;obtain⟨z,hz⟩:=hzz;rw[<-hz];have HDz:Hid (deep T m pos (hdO T pos (nd m y).parent)<deep T m pos z):=hi_ (by rw[hz];exact HD.out);clear hr hcell HD e1
   by_cases e:i=y
   ·have e2:(hd T pos i==z)=true:=by rw[hz,e];exact beq_self_eq_true _
    have HF:Hid (contains m i j=true):=hi_ (by rw[HC2.out,e];exact hF.wf.contains_self y);clear e hz;go_wp2_with fail
    go_ret
    exact⟨by rw[HF.out];rfl,HU.out⟩
   ·have e2:(hd T pos i==z)=false:=by rw[hz];exact bn_ (fun h=>e (dB_ hF hi hy h))
    have HN:Hid (contains m i j=match (nd m y).parent with|some q=>contains m i q|none=>false):=hi_ (by
     rw[HC2.out]
     cases hp:(nd m y).parent with
     |none=>rw[hF.wf.contains_root hp];exact bn_ e
     |some p=>rw[hF.wf.contains_step hp,bn_ e,Bool.false_or])
    have HPh:Hid (∀q,(nd m y).parent=some q->has m q=true):=hi_ (fun q hq=>bC_ hF hy hq);generalize (nd m y).parent=po at *;clear e hz;go_wp2_with fail
    refine Q3.out.mono ?_;rintro e3 w3 ⟨rfl,hb3⟩;have HU3:=bt_ HU hb3;go_wp2_with fail
    go_roundw
    case rel=>exact⟨po,rfl,rfl,HPh,HN,HU3⟩
    case measure=>exact HDz.out
end A
end
section
open Go.RowKit Go.Sort
namespace A
open H G
theorem ce_{T:am_}{m:aa_}{pos:Nat->Nat}{w wr:World}(hT:aj_ w T m pos)(hU:Below w.heap.size w wr){y:Nat}(hy:has m y=true) :
  T.ptr 1 (hdO T pos (some y))=some ⟨T.g,pos y*10+1,none⟩/\wr.cell? ⟨T.g,pos y*10+5,none⟩=some (.int .i64 (hdO T pos (nd m y).parent))/\(0<=hdO T pos (nd m y).parent/\hdO T pos (nd m y).parent<=1000001000)/\deep T m pos (hdO T pos (nd m y).parent)<deep T m pos (hdO T pos (some y))/\(∀q,(nd m y).parent=some q->has m q=true):=by
 have hF:=hT.fits;have hfew:=hT.mem.few;have hTr:=hT.below hU;refine⟨bH_ hfew hF hy 1,?_,?_,?_,fun q hq=>bC_ hF hy hq⟩
 ·rw[(hTr.cell hy (k:=5) (by omega)).1,<-hF.parent y hy];rfl
 ·cases hp:(nd m y).parent with
  |none=>exact⟨Int.le_refl 0,by show(0:Int)<=1000001000;omega⟩
  |some p=>exact⟨by have:=aP_ (T:=T) (pos:=pos) p;show 0<=hd T pos p;omega,bA_ hfew hF (bC_ hF hy hp)⟩
 ·show _<deep T m pos (hd T pos y)
  rw[hg_ hF hy]
  cases hp:(nd m y).parent with
  |none=>show deep T m pos 0<_;rw[h5_];have:=hF.wf.depth_pos y;omega
  |some p=>
   show deep T m pos (hd T pos p)<_;rw[hg_ hF (bC_ hF hy hp),hF.wf.depth_step hp];omega
theorem top_(T:am_)(m:aa_)(pos:Nat->Nat)(j:Nat)(w:World)(hT:aj_ w T m pos)(hj:has m j=true) :
  Calls Tryz.prog 30 #[.pointer (some ⟨T.tb,0,none⟩),.int .i64 (hd T pos j)] w fun e w'=>e=.returned (.int .i64 (hd T pos (top m j)))/\Below w.heap.size w w':=by
 have hF:=hT.fits;have hfew:=hT.mem.few;have HT:=hi_ hT;have QA:=hi_ (fun(z:Int) (h0:0<=z) (h1:z<=1000001000) W (hb:Below w.heap.size w W)=>at_ T z W (hT.below hb).mem (by omega) (by omega));have hbj:=bA_ hfew hF hj;have hpj:=aP_ (T:=T) (pos:=pos) j;have pJ:=bH_ hfew hF hj 1;have Q2:=hi_ (QA.out (hd T pos j) (by omega) hbj w (Below.refl _ w));rw[pJ]at Q2;have HJh:=hi_ hj;clear hT
 go_enter Tryz.func30,Tryz.ntmps30
 go_wp2_with fail
 refine Q2.out.mono ?_;rintro e w2 ⟨rfl,hb2⟩;have HB2:=hi_ hb2;clear hb2 Q2;go_wp2_with fail
 go_loopw [1,5] (fun v1 v5 wr=>∃y:Nat,v1=.int .i64 (hdO T pos (some y))/\v5=.pointer (T.ptr 1 (hdO T pos (some y)))/\Hid (has m y=true)/\Hid (top m y=top m j)/\Hid (Below w.heap.size w wr)) (fun v1 _ _=>deep T m pos (aN_ v1))
 case atStart=>exact⟨j,rfl,by show Value.pointer _=.pointer (T.ptr 1 (hd T pos j));rw[pJ],HJh,hi_ rfl,HB2⟩
 case round=>
  obtain⟨y,rfl,rfl,HH,HC,HU⟩:=hrel;clear HJh HB2 pJ;have hy:=HH.out;obtain⟨e1,k5,hr,hD,hPh⟩:=ce_ HT.out HU.out hy;have Q3:=hi_ (QA.out (hdO T pos (nd m y).parent) hr.1 hr.2 wr HU.out);rw[e1];obtain⟨z,hz⟩:∃z,z=hdO T pos (some y):=⟨_,rfl⟩;rw[<-hz]at hD ⊢;have HD:=hi_ hD;clear hr hD e1
  cases hp:(nd m y).parent with
  |none=>
   rw[hp]at k5;have k5':wr.cell? ⟨T.g,pos y*10+5,none⟩=some (.int .i64 0):=k5;have HF:Hid (z=hd T pos (top m j)):=hi_ (by rw[hz,<-HC.out,hF.wf.top_root hp];rfl);clear k5 hz hPh hp;go_wp2_with fail
   go_ret
   exact⟨ay_ HF.out,HU.out⟩
  |some p=>
   rw[hp]at k5 Q3 HD;have hph:=hPh p hp;have k5':wr.cell? ⟨T.g,pos y*10+5,none⟩=some (.int .i64 (hd T pos p)):=k5;have hne:¬hd T pos p=0:=by have:=aP_ (T:=T) (pos:=pos) p;omega
   have hne2:(hd T pos p==0)=false:=bn_ hne;have HN:Hid (top m p=top m j):=hi_ (by rw[<-HC.out,hF.wf.top_step hp]);have HPh:=hi_ hph;clear k5 hz hPh hp hph;go_wp2_with fail
   refine Q3.out.mono ?_;rintro e3 w3 ⟨rfl,hb3⟩;have HU3:=bt_ HU hb3;go_wp2_with fail
   go_roundw
   case rel=>exact⟨p,rfl,rfl,HPh,HN,HU3⟩
   case measure=>exact HD.out
theorem dn_{l:List Nat}(hn:l.Nodup){i c:Nat}(h:l[i]?=some c):l.idxOf c=i:=by
 have h1:=dr_ (List.mem_of_getElem? h);have hi:i<l.length:=by
  rcases Nat.lt_or_ge i l.length with h2|h2
  ·exact h2
  ·rw[List.getElem?_eq_none h2]at h;cases h
 exact((List.getElem?_inj hi hn).1 (h.trans h1.symm)).symm
theorem bu_{T:am_}{m:aa_}{pos:Nat->Nat}(F:Fits T m pos){p c:Nat}(hp:has m p=true)(hc:c∈(nd m p).kids):has m c=true:=by
 have:=F.wf.gone c p (F.wf.kid p c hc).2;unfold has at hp ⊢;rw[this];exact hp
theorem hS_{T:am_}{m:aa_}{pos:Nat->Nat}(hfew:T.slots.length<=1000000)(F:Fits T m pos){o:Option Nat}(ho:∀y,o=some y->has m y=true):0<=hdO T pos o/\hdO T pos o<=1000001000:=by
 cases o with
 |none=>exact⟨Int.le_refl 0,by show(0:Int)<=1000001000;omega⟩
 |some p=>exact⟨by have:=aP_ (T:=T) (pos:=pos) p;show 0<=hd T pos p;omega,bA_ hfew F (ho p rfl)⟩
theorem cH_{T:am_}{m:aa_}{pos:Nat->Nat}(hfew:T.slots.length<=1000000)(F:Fits T m pos){p:Nat}(hp:has m p=true):(nd m p).kids.length<=1000000:=by
 have h1:((nd m p).kids.map pos).Nodup:=by
  have h2:=F.wf.nodup p;rw[List.nodup_iff_pairwise_ne]at h2 ⊢;rw[List.pairwise_map];exact List.Pairwise.imp_of_mem (fun ha hb hne e=>hne (F.inj _ _ (bu_ F hp ha) (bu_ F hp hb) e)) h2
 have h3:((nd m p).kids.map pos).length<=(List.range T.slots.length).length:=List.Nodup.length_le_of_subset h1 (fun x hx=>by
  obtain⟨c,hc,rfl⟩:=List.mem_map.1 hx;exact List.mem_range.2 (F.lt c (bu_ F hp hc)))
 rw[List.length_map,List.length_range]at h3;omega
theorem dY_(T:am_)(m:aa_)(pos:Nat->Nat)(j p:Nat)(w:World)(hT:aj_ w T m pos)(hj:has m j=true)(hp:(nd m j).parent=some p) :
  Calls Tryz.prog 87 #[.pointer (some ⟨T.tb,0,none⟩),.int .i64 (hd T pos j)] w fun e w'=>e=.returned (.int .i64 ((nd m p).kids.idxOf j:Nat))/\Below w.heap.size w w':=by
 have hF:=hT.fits;have hfew:=hT.mem.few;have HT:=hi_ hT;have QA:=hi_ (fun(z:Int) (h0:0<=z) (h1:z<=1000001000) W (hb:Below w.heap.size w W)=>at_ T z W (hT.below hb).mem (by omega) (by omega));have hbj:=bA_ hfew hF hj;have hpj:=aP_ (T:=T) (pos:=pos) j;have pJ:=bH_ hfew hF hj 1;have Q2:=hi_ (QA.out (hd T pos j) (by omega) hbj w (Below.refl _ w));rw[pJ]at Q2;have hph:=bC_ hF hj hp;have hmem:=(hF.wf.par j p hp).2;have hlt:=List.idxOf_lt_length_of_mem hmem;have hkl:=cH_ hfew hF hph;have HK:=hi_ (fun c (hc:c∈(nd m p).kids)=>bu_ hF hph hc);have HPp:=hi_ (fun c (hc:c∈(nd m p).kids)=>(hF.wf.kid p c hc).2);have HNd:=hi_ (hF.wf.nodup p);have HPv:Hid (ag_ m j=ag_.prevAt2 (nd m p).kids ((nd m p).kids.idxOf j)):=hi_ (by unfold ag_;rw[hp])
 have HPs:Hid (∀q x,(nd m p).kids[q]?=some x->ag_ m x=ag_.prevAt2 (nd m p).kids q):=hi_ (fun q x hq=>by
  have hx:=List.mem_of_getElem? hq;unfold ag_;rw[HPp.out x hx];dsimp only;rw[dn_ HNd.out hq])
 generalize (nd m p).kids=l at *;generalize hI:l.idxOf j=I at *;have c5:w.cell? ⟨T.g,pos j*10+5,none⟩=some (.int .i64 (hd T pos p)):=by
  rw[(hT.cell hj (k:=5) (by omega)).1];show some (Value.int .i64 (T.sl (pos j)).parent)=_;rw[hF.parent j hj,hp];rfl
 have c8:w.cell? ⟨T.g,pos j*10+8,none⟩=some (.int .i64 (hdO T pos (ag_ m j))):=by
  rw[(hT.cell hj (k:=8) (by omega)).1];show some (Value.int .i64 (T.sl (pos j)).prev)=_;rw[hF.prev j hj]
 have hne:¬hd T pos p=0:=by have:=aP_ (T:=T) (pos:=pos) p;omega
 have hne2:(hd T pos p==0)=false:=bn_ hne;rw[HPv.out]at c8;have hlg:=(ae_ hT.mem.row).1;clear hT hp hmem hI
 go_enter Tryz.func87,Tryz.ntmps87
 go_wp2_with fail
 refine Q2.out.mono ?_;rintro e w2 ⟨rfl,hb2⟩;have HB2:=hi_ hb2;have d5:w2.cell? ⟨T.g,pos j*10+5,none⟩=some (.int .i64 (hd T pos p)):=(hb2.cell (p:=⟨T.g,pos j*10+5,none⟩) hlg).trans c5;have d8:w2.cell? ⟨T.g,pos j*10+8,none⟩=some (.int .i64 (hdO T pos (ag_.prevAt2 l I))):=(hb2.cell (p:=⟨T.g,pos j*10+8,none⟩) hlg).trans c8;clear hb2 Q2 c5 c8;go_wp2_with fail
 go_loopw [6,7] (fun v6 v7 wr=>∃n:Nat,n<=I/\v6=.int .i64 n/\v7=.int .i64 (hdO T pos (ag_.prevAt2 l (I-n)))/\Hid (Below w.heap.size w wr)) (fun v6 _ _=>I-(aN_ v6).toNat)
 case atStart=>exact⟨0,Nat.zero_le _,rfl,rfl,HB2⟩
 case round=>
  obtain⟨n,hn,rfl,rfl,HU⟩:=hrel;clear HB2 d5 d8 pJ
  by_cases hz:n=I
  ·have e0:hdO T pos (ag_.prevAt2 l (I-n))=0:=by rw[hz,Nat.sub_self];rfl
   rw[e0];have HF:Hid ((n:Int)=(I:Int)):=hi_ (by rw[hz]);clear hz e0;go_wp2_with fail
   go_ret
   exact⟨ay_ HF.out,HU.out⟩
  ·have hq:I-n-1<l.length:=by omega
   have hx:l[I-n-1]?=some l[I-n-1]:=List.getElem?_eq_getElem hq;have hpv:ag_.prevAt2 l (I-n)=some l[I-n-1]:=by unfold ag_.prevAt2;rw[if_neg (by omega)];exact hx
   have hps:=HPs.out _ _ hx;have hxk:=HK.out _ (List.mem_of_getElem? hx);rw[hpv];generalize l[I-n-1]=x at *;have hTr:=HT.out.below HU.out;have e1:T.ptr 1 (hdO T pos (some x))=some ⟨T.g,pos x*10+1,none⟩:=bH_ hfew hF hxk 1;have k8:wr.cell? ⟨T.g,pos x*10+8,none⟩=some (.int .i64 (hdO T pos (ag_.prevAt2 l (I-n-1)))):=by
    rw[(hTr.cell hxk (k:=8) (by omega)).1];show some (Value.int .i64 (T.sl (pos x)).prev)=_;rw[hF.prev x hxk,hps]
   have hr:=hS_ hfew hF (o:=some x) (fun y hy=>by injection hy with hy;rw[<-hy];exact hxk);have Q3:=hi_ (QA.out (hdO T pos (some x)) hr.1 hr.2 wr HU.out);rw[e1]at Q3;have hne3:¬hdO T pos (some x)=0:=by have:=aP_ (T:=T) (pos:=pos) x;show ¬hd T pos x=0;omega
   have hlg3:=(ae_ hTr.mem.row).1;have wn:IntKind.i64.wrap ((n:Int)+1)=(n:Int)+1:=IntWalk.i64_in _ (by omega);have HS:Hid (I-n-1=I-(n+1)):=hi_ (by omega);generalize hdO T pos (some x)=zx at *;clear hpv hps hx hxk hTr e1 hr hq;go_wp2_with fail
   refine Q3.out.mono ?_;rintro e3 w3 ⟨rfl,hb3⟩;have HU3:=bt_ HU hb3;have m8:w3.cell? ⟨T.g,pos x*10+8,none⟩=some (.int .i64 (hdO T pos (ag_.prevAt2 l (I-n-1)))):=(hb3.cell (p:=⟨T.g,pos x*10+8,none⟩) hlg3).trans k8;clear k8 hb3;go_wp2_with fail
   go_roundw
   case rel=>exact⟨n+1,by omega,congrArg (Value.int IntKind.i64) (by push_cast;omega),by rw[HS.out],HU3⟩
   case measure=>
    show I-((n:Int)+1).toNat<I-((n:Nat):Int).toNat;omega
def h4_(m:aa_)(o:Option Nat):Nat:=match o with|some y=>depth m y|none=>0
theorem eK_{m:aa_}(W:WF m)(y:Nat):depth m y=h4_ m (nd m y).parent+1:=by
 cases hp:(nd m y).parent with
 |none=>exact W.depth_root hp
 |some p=>exact W.depth_step hp
theorem depth_(T:am_)(m:aa_)(pos:Nat->Nat)(j:Nat)(w:World)(hT:aj_ w T m pos)(hj:has m j=true) :
  Calls Tryz.prog 115 #[.pointer (some ⟨T.tb,0,none⟩),.int .i64 (hd T pos j)] w fun e w'=>e=.returned (.int .i64 (depth m j:Nat))/\Below w.heap.size w w':=by
 have hF:=hT.fits;have hfew:=hT.mem.few;have HT:=hi_ hT;have hdl:=hF.wf.depth_le j;have QA:=hi_ (fun(z:Int) (h0:0<=z) (h1:z<=1000001000) W (hb:Below w.heap.size w W)=>at_ T z W (hT.below hb).mem (by omega) (by omega));have hbj:=bA_ hfew hF hj;have hpj:=aP_ (T:=T) (pos:=pos) j;have pJ:=bH_ hfew hF hj 1;have Q2:=hi_ (QA.out (hd T pos j) (by omega) hbj w (Below.refl _ w));have HJh:=hi_ hj;clear hT;generalize hpt:T.ptr 1 (hd T pos j)=pt at Q2;have HPT:=hi_ hpt;clear hpt pJ
 go_enter Tryz.func115,Tryz.ntmps115
 go_wp2_with fail
 refine Q2.out.mono ?_;rintro e w2 ⟨rfl,hb2⟩;have HB2:=hi_ hb2;clear hb2 Q2;go_wp2_with fail
 go_loopw [5,6] (fun v5 v6 wr=>∃(k:Nat) (o:Option Nat),v5=.int .i64 (k:Nat)/\v6=.pointer (T.ptr 1 (hdO T pos o))/\Hid (∀y,o=some y->has m y=true)/\Hid (k+h4_ m o=depth m j)/\Hid (Below w.heap.size w wr)) (fun v5 _ _=>129-(aN_ v5).toNat)
 case atStart=>
  refine⟨0,some j,rfl,?_,hi_ (fun y hy=>by injection hy with hy;rw[<-hy];exact HJh.out),hi_ (by show 0+depth m j=_;omega),HB2⟩;show _=Value.pointer (T.ptr 1 (hd T pos j));rw[HPT.out]
 case round=>
  obtain⟨k,o,rfl,rfl,HH,HC,HU⟩:=hrel;clear HJh HB2 HPT
  cases o with
  |none=>
   have hkk:depth m j=k:=by have h:k+0=depth m j:=HC.out;omega
   have HKK:=hi_ hkk;have e1:T.ptr 1 (hdO T pos none)=none:=jg_ 1;rw[e1];clear hkk e1;go_wp2_with fail
   go_ret
   exact⟨ay_ (by rw[HKK.out]),HU.out⟩
  |some y=>
   have hy:=HH.out y rfl;obtain⟨e1,k5,hr,hD,hPh⟩:=ce_ HT.out HU.out hy;have Q3:=hi_ (QA.out (hdO T pos (nd m y).parent) hr.1 hr.2 wr HU.out);have hst:=eK_ hF.wf y;have hc2:k+depth m y=depth m j:=HC.out;have hk:k<=128:=by omega
   have HN:Hid ((k+1)+h4_ m (nd m y).parent=depth m j):=hi_ (by omega);have HP:=hi_ hPh;have HK:Hid (k<=128):=hi_ hk;rw[e1];clear hr hD e1 hst hc2 hPh hy HC;generalize (nd m y).parent=o at *;generalize hz:hdO T pos o=z at *;generalize hpp:T.ptr 1 z=pp at *;have HZ:=hi_ hz;have HPP:=hi_ hpp;clear hz hpp;go_wp2_with fail
   refine Q3.out.mono ?_;rintro e3 w3 ⟨rfl,hb3⟩;have HU3:=bt_ HU hb3;go_wp2_with fail
   go_roundw
   case rel=>
    refine⟨k+1,o,?_,?_,HP,HN,HU3⟩
    ·first|rfl|(congr 1)
    ·rw[HZ.out,HPP.out]
   case measure=>
    show 129-((k:Int)+1).toNat<129-((k:Int)).toNat;have:=HK.out;omega
end A
end
section
open Go.RowKit
namespace N
theorem ib_ge:∀(l:List UInt8) (b:UInt8),decide (0<=Lib.indexByte l b)=l.contains b
 |[],b=>rfl
 |a :: t,b=>by
  have ih:=ib_ge t b;have hg:=Lib.indexByte_ge t b;rw[Lib.indexByte]
  by_cases h:a=b
  ·subst h;simp
  ·have h1:(a==b)=false:=by simpa using h
   have h2:¬b=a:=fun e=>h e.symm;rw[h1]
   by_cases h3:Lib.indexByte t b=-1
   ·have h4:t.contains b=false:=by rw[<-ih,h3];rfl
    simp[h3];refine⟨h2,?_⟩;simpa using h4
   ·have h4:t.contains b=true:=by rw[<-ih];simp;omega
    have h5:(Lib.indexByte t b == -1)=false:=by simpa using h3
    rw[h5];have h6:0<=Lib.indexByte t b+1:=by omega
    simp[h6];exact Or.inr (by simpa using h4)
theorem kb_(l:List UInt8)(hne:l≠[])(h:128<=(l.getD 0 0).toNat) :
  128<=U.code (U.a4_ l)/\U.code (U.a4_ l)<=1114111/\1<=U.adv l/\U.adv l<=l.length/\∀j,j<U.adv l->128<=(l.getD j 0).toNat:=by
 have hp:=U.cl_ l;have hle:=U.gQ_ l hne;have b0:=(l.getD 0 0).toNat_lt;have b1:=(l.getD 1 0).toNat_lt;have b2:=(l.getD 2 0).toNat_lt;have b3:=(l.getD 3 0).toNat_lt;rw[U.dq_]
 rcases U.gV_ l with⟨hs,h1⟩|⟨hs,h1⟩|⟨hs,h1⟩|⟨hs,h1⟩|⟨hs,_⟩
 ·unfold U.one at h1;omega
 ·have hc:=U.ck_ l (by omega)
  have ha:U.adv l=2:=by unfold U.adv;rw[hs];rfl
  rw[if_neg (by omega),hc,hs,ha];unfold U.two at h1;simp only[Nat.reduceEqDiff,if_false,if_true];refine⟨by omega,by omega,by omega,by omega,fun j hj=>?_⟩;have:j=0\/j=1:=by omega
  rcases this with rfl|rfl<;>omega
 ·have hc:=U.ck_ l (by omega)
  have ha:U.adv l=3:=by unfold U.adv;rw[hs];rfl
  rw[if_neg (by omega),hc,hs,ha];unfold U.three U.sec at h1;simp only[Nat.reduceEqDiff,if_false,if_true];refine⟨by omega,by omega,by omega,by omega,fun j hj=>?_⟩;have:j=0\/j=1\/j=2:=by omega
  rcases this with rfl|rfl|rfl<;>omega
 ·have hc:=U.ck_ l (by omega)
  have ha:U.adv l=4:=by unfold U.adv;rw[hs];rfl
  rw[if_neg (by omega),hc,hs,ha];unfold U.four U.sec at h1;simp only[Nat.reduceEqDiff,if_false,if_true];refine⟨by omega,by omega,by omega,by omega,fun j hj=>?_⟩;have:j=0\/j=1\/j=2\/j=3:=by omega
  rcases this with rfl|rfl|rfl|rfl<;>omega
 ·have ha:U.adv l=1:=by unfold U.adv;rw[hs];rfl
  rw[if_pos hs,ha];refine⟨by omega,by omega,by omega,by rw[ha]at hle;exact hle,fun j hj=>?_⟩;have:j=0:=by omega
  subst this;exact h
theorem decode_high(s:ByteArray)(pos:Nat)(h:pos<s.size)(hb:128<=(s[pos]'h).toNat) :
  128<=(Utf8.decode s pos).1/\(Utf8.decode s pos).1<=1114111/\1<=(Utf8.decode s pos).2/\pos+(Utf8.decode s pos).2<=s.size/\∀j b,pos<=j->j<pos+(Utf8.decode s pos).2->s.data.toList[j]?=some b->128<=b.toNat:=by
 have hl:(s.data.toList.drop pos).length=s.size-pos:=by simp
 have hne:s.data.toList.drop pos≠[]:=fun e=>by rw[e]at hl;simp at hl;omega
 have h0:(s.data.toList.drop pos).getD 0 0=s[pos]'h:=by
  rw[U.getD_drop,Nat.add_zero,List.getD_eq_getElem?_getD,List.getElem?_eq_getElem (by simpa using h)];rfl
 obtain⟨a1,a2,a3,a4,a5⟩:=kb_ _ hne (by rw[h0];exact hb);rw[U.dL_ s pos h];rw[hl]at a4;refine⟨a1,a2,a3,by omega,fun j b h1 h2 hj=>?_⟩;have h3:=a5 (j-pos) (by omega);rw[U.getD_drop,show pos+(j-pos)=j by omega,List.getD_eq_getElem?_getD,hj]at h3;exact h3
theorem NoAny.high{s chars:List UInt8}{p d:Nat}(h:Lib.NoAny s chars p)(hc:∀x∈chars,x.toNat<128)(hb:∀j b,p<=j->j<p+d->s[j]?=some b->128<=b.toNat):Lib.NoAny s chars (p+d):=fun j b hj hb2=>by
 rcases Nat.lt_or_ge j p with h1|h1
 ·exact h j b h1 hb2
 ·have h2:=hb j b h1 hj hb2
  cases h3:chars.contains b with
  |false=>rfl
  |true=>have:=hc b (List.contains_iff_mem.1 h3);omega
def RelA(s chars:ByteArray)(w1:World)(v:Value)(wr:World):Prop:=∃pos:Nat,pos<=s.size/\v=.int .i64 0/\wr.heap[w1.heap.size]?=some (.stringIter s pos)/\Below w1.heap.size w1 wr/\Hid (Lib.NoAny s.data.toList chars.data.toList pos)
theorem gj_(s chars:ByteArray)(w:World)(hs:s.size<=8)(ha:Asc chars)(hc2:2<=chars.size)(hcz:chars.size<=100) :
  Calls Tryz.prog 165 #[.string s,.string chars] w fun e w'=>e=.returned (.int .i64 (Lib.indexAny s.data.toList chars.data.toList))/\Below w.heap.size w w':=by
 have hal:∀x∈chars.data.toList,x.toNat<128:=fun x hx=>by
  obtain⟨i,hi,rfl⟩:=List.mem_iff_getElem.1 hx;exact ha i (by simpa using hi)
 have HAl:=hi_ hal;have QU:=hi_ (Tryz.strings_shouldUseASCIISet (s.size:Int) w);have e1:decide ((8:Int)<(s.size:Int))=false:=decide_eq_false (by omega);rw[e1]at QU;have hce2:chars.toList.isEmpty=false:=by
  rw[Lib.toList_data];have:chars.data.toList.length=chars.size:=by simp
  cases h:chars.data.toList with
  |nil=>rw[h]at this;simp at this;omega
  |cons _ _=>rfl
 have hc1:¬(chars.size:Int)=1:=by omega
 have hc1':((chars.size:Int)==1)=false:=bn_ hc1;have QA:=hi_ (fun(c:UInt8) (h:c.toNat<128) W=>(Tryz.strings_IndexRune_ascii chars (c.toNat:Int) W (by omega) (by omega)).mono (R':=fun e w'=>e=.returned (.int .i64 (Lib.indexByte chars.data.toList c))/\w'=W) (fun _ _ h=>⟨by rw[h.1];simp,h.2⟩));have QH:=hi_ (fun(r:Nat) (h1:128<=r) (h2:r<=1114111) W=>hK_ chars r W ha hcz h1 h2);clear e1 hal ha
 go_enter Tryz.func165,Tryz.ntmps165
 go_wp2_with fail
 refine QU.out.mono ?_;rintro e w2 ⟨rfl,rfl⟩;clear QU;go_wp2_with fail
 go_loopw [4] (fun v wr=>RelA s chars w2 v wr) (fun _ wr=>eu_ wr w2.heap.size)
 case atStart=>exact⟨0,Nat.zero_le _,rfl,by simpa using World.iter_heap w2 s 0,(Below.refl _ w2).alloc (nl_) _,hi_ (Lib.NoAny.zero _ _)⟩
 case round=>
  obtain⟨pos,hp,rfl,hit,hB,HN⟩:=hrel
  by_cases hlt:pos<s.size
  ·have hget:s.data.toList[pos]?=some (s[pos]'hlt):=by rw[List.getElem?_eq_getElem (by simpa using hlt)];rfl
   by_cases hb:(s[pos]'hlt).toNat<128
   ·have hnx:=fun ty=>Lib.run_next_ascii_at (P:=Tryz.prog) wr w2.heap.size s pos ty hit hlt hb
    have hit2:=Lib.iterAt_heap wr w2.heap.size s pos (pos+1) hit;have hB2:=Lib.below_iterAt hB (k:=w2.heap.size) (nl_) s (pos+1);have HM:Hid (eu_ (wr.iterAt w2.heap.size s (pos+1)) w2.heap.size<eu_ wr w2.heap.size):=hi_ (by unfold eu_;rw[hit2,hit];show s.size-(pos+1)<s.size-pos;omega);have Q1:=hi_ (QA.out (s[pos]'hlt) hb (wr.iterAt w2.heap.size s (pos+1)));have hge:=ib_ge chars.data.toList (s[pos]'hlt);generalize s[pos]=c at *;generalize hz:Lib.indexByte chars.data.toList c=z at *;have HIt:=hi_ hit2;have HB2:=hi_ hB2;have HGet:=hi_ hget;clear hget hb
    cases hcc:chars.data.toList.contains c with
    |true=>
     rw[hcc]at hge;have g1:(0:Int)<=z:=by simpa using hge
     have HV:=hi_ (Lib.indexAny_hit HN.out HGet.out hcc);clear hge hcc hz hit2 hB2;go_wp2_with fail
     refine Q1.out.mono ?_;rintro e w4 ⟨rfl,rfl⟩;go_wp2_with fail
     go_ret
     exact⟨H.k5_ HV.out.symm,HB2.out⟩
    |false=>
     rw[hcc]at hge;have g1:¬(0:Int)<=z:=by simpa using hge
     have HV:=hi_ (Lib.NoAny.succ HN.out HGet.out hcc);clear hge hcc hz hit2 hB2;go_wp2_with fail
     refine Q1.out.mono ?_;rintro e w4 ⟨rfl,rfl⟩;go_wp2_with fail
     go_roundw
     case rel=>exact⟨pos+1,by omega,rfl,HIt.out,HB2.out,HV⟩
     case measure=>exact HM.out
   ·obtain⟨d1,d2,d3,d4,d5⟩:=decode_high s pos hlt (by omega)
    have hnx:=fun ty=>Lib.run_next_any_at (P:=Tryz.prog) wr w2.heap.size s pos ty hit hlt;generalize Utf8.decode s pos=dec at *;obtain⟨C,D⟩:=dec;have hit2:=Lib.iterAt_heap wr w2.heap.size s pos (pos+D) hit;have hB2:=Lib.below_iterAt hB (k:=w2.heap.size) (nl_) s (pos+D);have d3':1<=D:=d3;have d4':pos+D<=s.size:=d4;have HM:Hid (eu_ (wr.iterAt w2.heap.size s (pos+D)) w2.heap.size<eu_ wr w2.heap.size):=hi_ (by unfold eu_;rw[hit2,hit];show s.size-(pos+D)<s.size-pos;omega);have Q1:=hi_ (QH.out C d1 d2 (wr.iterAt w2.heap.size s (pos+D)));have HV:Hid (Lib.NoAny s.data.toList chars.data.toList (pos+D)):=hi_ (NoAny.high HN.out HAl.out d5);have HIt:=hi_ hit2;have HB2:=hi_ hB2;have hlt2:w2.heap.size<(wr.iterAt w2.heap.size s (pos+D)).heap.size:=(Array.getElem?_eq_some_iff.1 hit2).1
    have hnx':∀ty,(Instr.next (.pointer (some ⟨w2.heap.size,0,none⟩)) true ty).run Tryz.prog wr=.ok (.tuple #[.bool true,.int .i64 pos,.int .i32 (C:Nat)]) (wr.iterAt w2.heap.size s (pos+D)):=hnx;clear hget hb hnx d1 d2 d5 hit2 hB2 d3 d4;generalize wr.iterAt w2.heap.size s (pos+D)=wi at *;go_wp2_with fail
    refine Q1.out.mono ?_;rintro e w4 ⟨rfl,hb4⟩;have HIt4:Hid (w4.heap[w2.heap.size]?=some (.stringIter s (pos+D))):=hi_ ((hb4.block _ hlt2).trans HIt.out);have HM4:Hid (eu_ w4 w2.heap.size<eu_ wr w2.heap.size):=hi_ (by have h:=HM.out;unfold eu_ at h ⊢;rw[HIt4.out];rw[HIt.out]at h;exact h);have HB4:=hi_ (HB2.out.trans (hb4.mono (Nat.le_of_lt hlt2)));go_wp2_with fail
    go_roundw
    case rel=>exact⟨pos+D,d4',rfl,HIt4.out,HB4.out,HV⟩
    case measure=>exact HM4.out
  ·have hnx:=fun ty=>Lib.run_next_end_at (P:=Tryz.prog) wr w2.heap.size s pos ty hit hlt
   have hpe:pos=s.size:=by omega
   have HV:Hid (Lib.indexAny s.data.toList chars.data.toList=-1):=hi_ (Lib.indexAny_none (by have h:=HN.out;rw[hpe]at h;simpa using h));clear hpe;go_wp2_with fail
   go_ret
   exact⟨H.k5_ HV.out.symm,hB⟩
end N
end
section
open Go.RowKit Go.Sort
namespace A
open H G
theorem c8_:(Tryz.prog.info? 3).map (fun i=>(i.zero,i.size,i.bytes))=some (some (.int .i64 0),1,8):=by kernel_rfl
def hO_(T:am_)(pos:Nat->Nat)(l:List Nat):List Value:=l.map fun c=>.int .i64 (hd T pos c)
def eO_(T:am_)(pos:Nat->Nat)(base:Nat)(w:World)(v:Value)(l:List Nat):Prop:=w.ownsRow base 3 1 v l.length (hO_ T pos l)
theorem j0_{m:aa_}(W:WF m){p q x:Nat}(hx:(nd m p).kids[q]?=some x):ap_ m x=(nd m p).kids[q+1]?:=by
 have h1:=List.mem_of_getElem? hx;unfold ap_;rw[(W.kid p x h1).2];dsimp only;rw[dn_ (W.nodup p) hx]
theorem j8_(T:am_)(m:aa_)(pos:Nat->Nat)(p:Nat)(w:World)(hT:aj_ w T m pos)(hp:has m p=true) :
  Calls Tryz.prog 94 #[.pointer (some ⟨T.tb,0,none⟩),.int .i64 (hd T pos p)] w fun e w'=>∃v,e=.returned v/\Below w.heap.size w w'/\eO_ T pos w.heap.size w' v (nd m p).kids:=by
 have hF:=hT.fits;have hfew:=hT.mem.few;have HT:=hi_ hT;have QA:=hi_ (fun(z:Int) (h0:0<=z) (h1:z<=1000001000) W (hb:Below w.heap.size w W)=>at_ T z W (hT.below hb).mem (by omega) (by omega));have hbj:=bA_ hfew hF hp;have hpj:=aP_ (T:=T) (pos:=pos) p;have pJ:=bH_ hfew hF hp 1;have Q2:=hi_ (QA.out (hd T pos p) (by omega) hbj w (Below.refl _ w));rw[pJ]at Q2;have hkl:=cH_ hfew hF hp;have HK:=hi_ (fun c (hc:c∈(nd m p).kids)=>bu_ hF hp hc);have HNs:=hi_ (fun q x (hx:(nd m p).kids[q]?=some x)=>j0_ hF.wf hx);have c6:w.cell? ⟨T.g,pos p*10+6,none⟩=some (.int .i64 (hdO T pos (nd m p).kids[0]?)):=by
  rw[(hT.cell hp (k:=6) (by omega)).1];show some (Value.int .i64 (T.sl (pos p)).first)=_;rw[hF.first p hp,List.head?_eq_getElem?]
 generalize (nd m p).kids=l at *;have hlg:=(ae_ hT.mem.row).1;obtain⟨i0,hi0,hz0,hz1,hz2⟩:=info_parts c8_;clear hT
 go_enter Tryz.func94,Tryz.ntmps94
 go_wp2_with fail
 refine Q2.out.mono ?_;rintro e w2 ⟨rfl,hb2⟩;have HB2:=hi_ hb2;have d6:w2.cell? ⟨T.g,pos p*10+6,none⟩=some (.int .i64 (hdO T pos l[0]?)):=(hb2.cell (p:=⟨T.g,pos p*10+6,none⟩) hlg).trans c6;have HO0:Hid (eO_ T pos w.heap.size w2 (.slice none 0 0) (l.take 0)):=hi_ (World.ownsRow_nil _ _ _ _);clear hb2 Q2 c6;go_wp2_with fail
 go_loopw [6,7] (fun v6 v7 wr=>∃n:Nat,n<=l.length/\v7=.int .i64 (hdO T pos l[n]?)/\Hid (eO_ T pos w.heap.size wr v6 (l.take n))/\Hid (Below w.heap.size w wr)) (fun v6 _ _=>l.length-(match v6 with | .slice _ n _=>n|_=>0))
 case atStart=>exact⟨0,Nat.zero_le _,rfl,HO0,HB2⟩
 case round=>
  obtain⟨n,hn,rfl,HO,HU⟩:=hrel;clear HB2 d6 pJ HO0;have hform:∃ao cap,u6=.slice ao n cap:=by
   have h1:=HO.out;unfold eO_ at h1;rw[List.length_take,Nat.min_eq_left hn]at h1
   rcases h1.2 with⟨h1,h2⟩|⟨g,cap,cur,h1,_⟩
   ·exact⟨none,0,by rw[h1,h2]⟩
   ·exact⟨_,cap,h1⟩
  obtain⟨ao,cap,hv⟩:=hform;subst hv
  by_cases hz:n=l.length
  ·have e0:hdO T pos l[n]?=0:=by rw[hz,List.getElem?_eq_none (nl_)];rfl
   rw[e0];have HF:Hid (eO_ T pos w.heap.size wr (.slice ao n cap) l):=hi_ (by
    have h:=HO.out
    rwa [List.take_of_length_le (by omega)]at h)
   clear hz e0 HO;go_wp2_with fail
   go_ret
   exact⟨_,rfl,HU.out,HF.out⟩
  ·have hq:n<l.length:=by omega
   have hx:l[n]?=some l[n]:=List.getElem?_eq_getElem hq;have hns:=HNs.out _ _ hx;have hxk:=HK.out _ (List.mem_of_getElem? hx);have htk:l.take (n+1)=l.take n++[l[n]]:=by rw[List.take_add_one,hx];rfl
   rw[hx];generalize l[n]=x at *;have hTr:=HT.out.below HU.out;have e1:T.ptr 1 (hdO T pos (some x))=some ⟨T.g,pos x*10+1,none⟩:=bH_ hfew hF hxk 1;have hr:=hS_ hfew hF (o:=some x) (fun y hy=>by injection hy with hy;rw[<-hy];exact hxk);have hne3:¬hdO T pos (some x)=0:=by have:=aP_ (T:=T) (pos:=pos) x;show ¬hd T pos x=0;omega
   have HOr:=hi_ (show wr.ownsRow w.heap.size 3 1 (.slice ao n cap) n (hO_ T pos (l.take n)) by
    have h:=HO.out;unfold eO_ at h
    rwa [List.length_take,Nat.min_eq_left hn]at h)
   have HZ:Hid (hdO T pos (some x)=hd T pos x):=hi_ rfl;have HTk:=hi_ htk;have hU:=HU.out.size;have hlgr:=(ae_ hTr.mem.row).1;generalize hzx:hdO T pos (some x)=zx at *;have k9:wr.cell? ⟨T.g,pos x*10+9,none⟩=some (.int .i64 (hdO T pos l[n+1]?)):=by
    rw[(hTr.cell hxk (k:=9) (by omega)).1];show some (Value.int .i64 (T.sl (pos x)).next)=_;rw[hF.next x hxk,hns]
   clear hx hns htk hzx HO;go_wp2_with (at_builtin;refine wpList_append_lies _ rfl _ _ 39 rfl w.heap.size 3 i0 _ 1 8 Tryz.underlying39 hi0 hz0 hz1 hz2 rfl (by decide) (.slice ao n cap) n (hO_ T pos (l.take n)) rfl (HOr.out.alloc _) ⟨wr.heap.size,0,none⟩ 1 1 [.int .i64 zx] rfl rfl ?c1 ?c2 ?c3 ?c4 ?c5 ?c6 (wr.heap.size+1) ?c7 ?_)
   case c1=>exact World.news_of_block (heap_alloc_new wr (.cells #[.int .i64 zx] 3))
   case c2=>simp[Value.oneCell']
   case c3=>omega
   case c4=>unfold maxLen;omega
   case c5=>omega
   case c6=>simp;omega
   case c7=>simp
   intro gg cap2 w5 hown5 hgrow hat5 hlt5;have HO5:Hid (eO_ T pos w.heap.size w5 (.slice (some ⟨gg,0,none⟩) (n+1) cap2) (l.take (n+1))):=hi_ (by
    unfold eO_;rw[HTk.out,List.length_append,List.length_take,Nat.min_eq_left hn];unfold hO_ at *;rw[List.map_append];have e':([x].map fun c=>Value.int .i64 (hd T pos c))=[.int .i64 zx]:=
     congrArg (fun z=>[Value.int .i64 z]) HZ.out.symm
    rw[e'];exact hown5)
   have HB5:Hid (Below w.heap.size w w5):=hi_ ((HU.out.alloc hU _).grown hgrow (by simp;omega) (fun q hq=>(HOr.out.lt q hq).1));have hTr5:=HT.out.below HB5.out;have k95:w5.cell? ⟨T.g,pos x*10+9,none⟩=some (.int .i64 (hdO T pos l[n+1]?)):=by
    rw[(hTr5.cell hxk (k:=9) (by omega)).1];have:=(hTr.cell hxk (k:=9) (by omega)).1;rw[k9]at this;exact this.symm
   have Q3:=hi_ (QA.out zx hr.1 hr.2 w5 HB5.out);rw[e1]at Q3;have hlg5:=(ae_ hTr5.mem.row).1;clear k9 hTr hTr5 hown5 hgrow hat5 HOr e1;go_wp2_with fail
   refine Q3.out.mono ?_;rintro e3 w6 ⟨rfl,hb3⟩;have HU6:=bt_ HB5 hb3;have m9:w6.cell? ⟨T.g,pos x*10+9,none⟩=some (.int .i64 (hdO T pos l[n+1]?)):=(hb3.cell (p:=⟨T.g,pos x*10+9,none⟩) hlg5).trans k95;have HO6:Hid (eO_ T pos w.heap.size w6 (.slice (some ⟨gg,0,none⟩) (n+1) cap2) (l.take (n+1))):=hi_ (by
    refine⟨HO5.out.1,?_⟩
    rcases HO5.out.2 with hn|⟨g,cap,cur,hv,hb,hgg,rest⟩
    ·exact Or.inl hn
    ·exact Or.inr ⟨g,cap,cur,hv,hb,(hb3.block g (lt_of_block hgg)).trans hgg,rest⟩)
   clear k95 hb3 HO5 HB5;go_wp2_with fail
   go_roundw
   case rel=>exact⟨n+1,by omega,rfl,HO6,HU6⟩
   case measure=>
    show l.length-(n+1)<l.length-n;omega
end A
end
section
open Go.RowKit Go.Sort
namespace A
open H G
def am_.modS(T:am_)(s:Nat)(f:em_->em_):am_:={ T with slots:=T.slots.modify s f }
theorem cY_(T:am_)(s:Nat)(f:em_->em_):(T.modS s f).slots.length=T.slots.length:=by unfold am_.modS;simp
theorem sl_modS{T:am_}{s:Nat}{f:em_->em_}(h:s<T.slots.length)(t:Nat):(T.modS s f).sl t=if t=s then f (T.sl t)else T.sl t:=by
 unfold am_.sl am_.modS
 by_cases hj:t=s
 ·subst hj
  simp[List.getD,List.getElem?_modify,h]
 ·have h2:¬s=t:=fun e=>hj e.symm
  simp[List.getD,List.getElem?_modify,h2,hj]
theorem d0_{T T':am_}{pos:Nat->Nat}(h1:T'.bs=T.bs)(h2:T'.st=T.st)(o:Option Nat):hdO T' pos o=hdO T pos o:=by
 cases o with
 |none=>rfl
 |some i=>unfold hdO hd;rw[h1,h2]
def Sib(T:am_)(pos:Nat->Nat)(l:List Nat):Prop:=∀q x,l[q]?=some x->(T.sl (pos x)).prev=hdO T pos (ag_.prevAt2 l q)/\(T.sl (pos x)).next=hdO T pos l[q+1]?
theorem dT_{m:aa_}(W:WF m){p q x:Nat}(hx:(nd m p).kids[q]?=some x):ag_ m x=ag_.prevAt2 (nd m p).kids q:=by
 have h1:=List.mem_of_getElem? hx;unfold ag_;rw[(W.kid p x h1).2];dsimp only;rw[dn_ (W.nodup p) hx]
theorem ec_{m:aa_}(W:WF m){p q x:Nat}(hx:(nd m p).kids[q]?=some x):ap_ m x=(nd m p).kids[q+1]?:=by
 have h1:=List.mem_of_getElem? hx;unfold ap_;rw[(W.kid p x h1).2];dsimp only;rw[dn_ (W.nodup p) hx]
section
variable {T:am_} {m:aa_} {pos:Nat->Nat}
theorem Fits.sib(F:Fits T m pos){p:Nat}(hp:has m p=true):Sib T pos (nd m p).kids:=by
 intro q x hx;have hk:=bu_ F hp (List.mem_of_getElem? hx);rw[F.prev x hk,F.next x hk,dT_ F.wf hx,ec_ F.wf hx];exact⟨rfl,rfl⟩
theorem Fits.lone(F:Fits T m pos){i:Nat}(hi:has m i=true)(hp:(nd m i).parent=none):(T.sl (pos i)).prev=0/\(T.sl (pos i)).next=0:=by
 rw[F.prev i hi,F.next i hi];unfold ag_ ap_;rw[hp];exact⟨rfl,rfl⟩
theorem e5_(W:WF m)(hup:∀i p,has m i=true->(nd m i).parent=some p->has m p=true)(h1:∀p,has m p=true->Sib T pos (nd m p).kids)(h2:∀i,has m i=true->(nd m i).parent=none->(T.sl (pos i)).prev=0/\(T.sl (pos i)).next=0) :
  (∀i,has m i=true->(T.sl (pos i)).prev=hdO T pos (ag_ m i))/\(∀i,has m i=true->(T.sl (pos i)).next=hdO T pos (ap_ m i)):=by
 have h3:∀i,has m i=true->(T.sl (pos i)).prev=hdO T pos (ag_ m i)/\(T.sl (pos i)).next=hdO T pos (ap_ m i):=by
  intro i hi
  cases hp:(nd m i).parent with
  |none=>
   have:=h2 i hi hp;unfold ag_ ap_;rw[hp];exact this
  |some p=>
   have hm:=(W.par i p hp).2;have hx:=dr_ hm;rw[dT_ W hx,ec_ W hx];exact h1 p (hup i p hi hp) _ _ hx
 exact⟨fun i hi=>(h3 i hi).1,fun i hi=>(h3 i hi).2⟩
theorem jx_(W:WF m){i p:Nat}(hi:has m i=true)(hp:(nd m i).parent=some p):has m p=true:=by
 have:=W.gone i p hp;unfold has at hi ⊢;rw[<-this];exact hi
theorem bR_{A B:List Nat}{q:Nat}(h:q<=A.length):ag_.prevAt2 (A++B) q=ag_.prevAt2 A q:=by
 unfold ag_.prevAt2
 by_cases h0:q=0
 ·rw[if_pos h0,if_pos h0]
 ·rw[if_neg h0,if_neg h0,List.getElem?_append_left (by omega)]
theorem cN_(A:List Nat):ag_.prevAt2 A A.length=A.getLast?:=by
 unfold ag_.prevAt2
 by_cases h0:A.length=0
 ·rw[if_pos h0,List.length_eq_zero_iff.1 h0];rfl
 ·rw[if_neg h0,List.getLast?_eq_getElem?]
structure mt_(T T':am_)(m:aa_)(pos:Nat->Nat)(h p:Nat):Prop where
 bs:T'.bs=T.bs
 st:T'.st=T.st
 len:T'.slots.length=T.slots.length
 frees:T'.frees=T.frees
 live:T'.live=T.live
 root:T'.root=T.root
 used:∀s,(T'.sl s).used=(T.sl s).used
 same:∀i,has m i=true->(T'.sl (pos i)).kind=(T.sl (pos i)).kind/\(T'.sl (pos i)).name=(T.sl (pos i)).name/\(T'.sl (pos i)).al=(T.sl (pos i)).al/\(T'.sl (pos i)).data=(T.sl (pos i)).data
 parent:∀i,has m i=true->(T'.sl (pos i)).parent=if i=h then 0 else(T.sl (pos i)).parent
 first:∀i,has m i=true->(T'.sl (pos i)).first=if i=p/\ag_ m h=none then hdO T pos (ap_ m h) else(T.sl (pos i)).first
 last:∀i,has m i=true->(T'.sl (pos i)).last=if i=p/\ap_ m h=none then hdO T pos (ag_ m h) else(T.sl (pos i)).last
 prev:∀i,has m i=true->(T'.sl (pos i)).prev=if i=h then 0 else if ap_ m h=some i then hdO T pos (ag_ m h) else(T.sl (pos i)).prev
 next:∀i,has m i=true->(T'.sl (pos i)).next=if i=h then 0 else if ag_ m h=some i then hdO T pos (ap_ m h) else(T.sl (pos i)).next
theorem lU_{h p:Nat}(h1:h<m.length)(h2:p<m.length)(i:Nat):has (cut m h p) i=has m i:=by
 unfold has;rw[bY_ h1 h2]
theorem Fits.cut{T':am_}{h p:Nat}(F:Fits T m pos)(hh:has m h=true)(hp:(nd m h).parent=some p)(C:mt_ T T' m pos h p):Fits T' (G.cut m h p) pos:=by
 have W:=F.wf;have hhl:=aR_ hh;have hph:=jx_ W hh hp;have hpl:=aR_ hph;have hm:=(W.par h p hp).2;have hd_:=W.nodup p;have e0:∀o,hdO T' pos o=hdO T pos o:=d0_ C.bs C.st;have hhas:=lU_ (m:=m) hhl hpl;obtain⟨A,B,hAB⟩:=List.append_of_mem hm;have hnA:h∉A:=fun hA=>by
  rw[hAB]at hd_;have:=(List.nodup_append.1 hd_).2.2 h hA h (by simp);exact this rfl
 have her:(nd m p).kids.erase h=A++B:=by
  rw[hAB,List.erase_append_right _ hnA,List.erase_cons_head]
 have hat:(nd m p).kids[A.length]?=some h:=by rw[hAB];simp
 have hprev:ag_ m h=A.getLast?:=by rw[dT_ W hat,hAB,bR_ (nl_),cN_]
 have hnext:ap_ m h=B.head?:=by rw[ec_ W hat,hAB,List.getElem?_append_right (by omega),List.head?_eq_getElem?];simp
 have hWc:=W.cut hp;have hkids:∀j,(nd (G.cut m h p) j).kids=if j=p then A++B else(nd m j).kids:=by
  intro j;rw[bY_ hhl hpl];dsimp only
  by_cases e:j=p
  ·rw[if_pos e,if_pos e,e,her]
  ·rw[if_neg e,if_neg e]
 have hpar:∀j,(nd (G.cut m h p) j).parent=if j=h then none else(nd m j).parent:=by
  intro j;rw[bY_ hhl hpl]
 have hsib:∀j,has (G.cut m h p) j=true->Sib T' pos (nd (G.cut m h p) j).kids:=by
  intro j hj;rw[hhas]at hj;have hS:=F.sib hj;intro q x hx;rw[e0,e0]
  by_cases e:j=p
  ·subst e
   rw[hkids,if_pos rfl]at hx ⊢;have hxk:x∈(nd m j).kids:=by
    rw[hAB]
    rcases List.mem_append.1 (List.mem_of_getElem? hx)with h1|h1
    ·exact List.mem_append_left _ h1
    ·exact List.mem_append_right _ (List.mem_cons_of_mem _ h1)
   have hxh:=bu_ F hj hxk;have hxne:x≠h:=by
    rintro rfl
    rcases List.mem_append.1 (List.mem_of_getElem? hx)with h1|h1
    ·exact hnA h1
    ·rw[hAB]at hd_
     have:=(List.nodup_append.1 hd_).2.1;rw[List.nodup_cons]at this;exact this.1 h1
   rw[C.prev x hxh,C.next x hxh,if_neg hxne,if_neg hxne,hprev,hnext];rw[hAB]at hS hd_
   rcases Nat.lt_or_ge q A.length with hq|hq
   ·have hxA:A[q]?=some x:=by rwa [List.getElem?_append_left hq]at hx
    have hx0:(A++h :: B)[q]?=some x:=by rw[List.getElem?_append_left hq];exact hxA
    obtain⟨s1,s2⟩:=hS q x hx0;have hxB:B.head?≠some x:=by
     intro hb;have hb2:x∈B:=List.mem_of_mem_head? hb;exact(List.nodup_append.1 hd_).2.2 x (List.mem_of_getElem? hxA) x (List.mem_cons_of_mem _ hb2) rfl
    rw[if_neg hxB,s1,s2];refine⟨by rw[bR_ (Nat.le_of_lt hq),bR_ (Nat.le_of_lt hq)],?_⟩
    by_cases hl:q+1=A.length
    ·have:A.getLast?=some x:=by rw[List.getLast?_eq_getElem?,<-hxA];congr 1;omega
     rw[if_pos this,List.getElem?_append_right (by omega),List.head?_eq_getElem?]
     congr 2;omega
    ·have:¬A.getLast?=some x:=by
      intro e2;rw[List.getLast?_eq_getElem?]at e2;have hAn:A.Nodup:=(List.nodup_append.1 hd_).1;have h3:=(List.getElem?_inj hq hAn).1 (hxA.trans e2.symm);omega
     rw[if_neg this,List.getElem?_append_left (by omega),List.getElem?_append_left (by omega)]
   ·have hxB:B[q-A.length]?=some x:=by rwa [List.getElem?_append_right hq]at hx
    have hx0:(A++h :: B)[q+1]?=some x:=by
     rw[List.getElem?_append_right (by omega),show q+1-A.length=(q-A.length)+1 by omega,List.getElem?_cons_succ];exact hxB
    obtain⟨s1,s2⟩:=hS _ x hx0;have hBn:B.Nodup:=(List.nodup_cons.1 (List.nodup_append.1 hd_).2.1).2;have hxA:¬A.getLast?=some x:=by
     intro hb;have hb2:x∈A:=List.mem_of_mem_getLast? hb;exact(List.nodup_append.1 hd_).2.2 x hb2 x (List.mem_cons_of_mem _ (List.mem_of_getElem? hxB)) rfl
    rw[if_neg hxA,s1,s2];constructor
    ·by_cases h0:q=A.length
     ·have hb:B.head?=some x:=by rw[List.head?_eq_getElem?,<-hxB,h0,Nat.sub_self]
      rw[if_pos hb,h0,bR_ (nl_),cN_]
     ·have hqB:q-A.length<B.length:=by
       rcases Nat.lt_or_ge (q-A.length) B.length with h1|h1
       ·exact h1
       ·rw[List.getElem?_eq_none h1]at hxB;cases hxB
      have hb:¬B.head?=some x:=by
       intro e2;rw[List.head?_eq_getElem?]at e2;have h3:=(List.getElem?_inj (by omega) hBn).1 (e2.trans hxB.symm);omega
      rw[if_neg hb]
      congr 1
      unfold ag_.prevAt2;rw[if_neg (by omega),if_neg (by omega),List.getElem?_append_right (by omega),List.getElem?_append_right (by omega),show q+1-1-A.length=(q-1-A.length)+1 by omega,List.getElem?_cons_succ]
    ·congr 1
     rw[List.getElem?_append_right (by omega),List.getElem?_append_right (by omega),show q+1+1-A.length=(q+1-A.length)+1 by omega,List.getElem?_cons_succ]
  ·rw[hkids,if_neg e]at hx ⊢
   have hxk:=List.mem_of_getElem? hx;have hxh:=bu_ F hj hxk;have hxp:=(W.kid j x hxk).2;have hxne:x≠h:=by
    rintro rfl;rw[hp]at hxp;injection hxp with hxp
    exact e hxp.symm
   have hno:∀y,y∈(nd m p).kids->y≠x:=by
    rintro y hy rfl;have:=(W.kid p y hy).2;rw[hxp]at this;injection this with this
    exact e this
   have n1:¬ap_ m h=some x:=fun e2=>hno x (by rw[hnext]at e2;rw[hAB];exact List.mem_append_right _ (List.mem_cons_of_mem _ (List.mem_of_mem_head? e2))) rfl;have n2:¬ag_ m h=some x:=fun e2=>hno x (by rw[hprev]at e2;rw[hAB];exact List.mem_append_left _ (List.mem_of_mem_getLast? e2)) rfl;rw[C.prev x hxh,C.next x hxh,if_neg hxne,if_neg hxne,if_neg n1,if_neg n2];exact hS q x hx
 have hlone:∀i,has (G.cut m h p) i=true->(nd (G.cut m h p) i).parent=none->(T'.sl (pos i)).prev=0/\(T'.sl (pos i)).next=0:=by
  intro i hi hn;rw[hhas]at hi;rw[hpar]at hn;rw[C.prev i hi,C.next i hi]
  by_cases e:i=h
  ·rw[if_pos e,if_pos e];exact⟨rfl,rfl⟩
  ·rw[if_neg e]at hn
   rw[if_neg e,if_neg e];have hnk:∀y,y∈(nd m p).kids->y≠i:=by
    rintro y hy rfl;have:=(W.kid p y hy).2;rw[hn]at this;cases this
   have n1:¬ap_ m h=some i:=fun e2=>hnk i (by rw[hnext]at e2;rw[hAB];exact List.mem_append_right _ (List.mem_cons_of_mem _ (List.mem_of_mem_head? e2))) rfl;have n2:¬ag_ m h=some i:=fun e2=>hnk i (by rw[hprev]at e2;rw[hAB];exact List.mem_append_left _ (List.mem_of_mem_getLast? e2)) rfl;rw[if_neg n1,if_neg n2];exact F.lone hi hn
 have hpn:=e5_ (T:=T') (pos:=pos) hWc (fun i q hi hq=>jx_ hWc hi hq) hsib hlone;refine { wf:=hWc,lt:=?_,used:=?_,kind:=?_,name:=?_,attrs:=?_,data:=?_,parent:=?_,first:=?_,last:=?_,prev:=hpn.1,next:=hpn.2,inj:=?_,onto:=?_,frees:=?_,live:=?_,root:=?_ }
 ·intro i hi;rw[C.len];exact F.lt i (by rwa [hhas]at hi)
 ·intro i hi;rw[C.used];exact F.used i (by rwa [hhas]at hi)
 ·intro i hi;rw[hhas]at hi;rw[(C.same i hi).1,F.kind i hi,bY_ hhl hpl]
 ·intro i hi;rw[hhas]at hi;rw[(C.same i hi).2.1,F.name i hi,bY_ hhl hpl]
 ·intro i hi;rw[hhas]at hi;rw[(C.same i hi).2.2.1,F.attrs i hi,bY_ hhl hpl]
 ·intro i hi;rw[hhas]at hi;rw[(C.same i hi).2.2.2,F.data i hi,bY_ hhl hpl]
 ·intro i hi;rw[hhas]at hi
  rw[e0,C.parent i hi,hpar]
  by_cases e:i=h
  ·rw[if_pos e,if_pos e];rfl
  ·rw[if_neg e,if_neg e];exact F.parent i hi
 ·intro i hi;rw[hhas]at hi
  rw[e0,C.first i hi,hkids,hprev,hnext]
  by_cases e:i=p
  ·subst e
   rw[if_pos rfl]
   cases A with
   |nil=>rw[if_pos ⟨rfl,rfl⟩];rfl
   |cons a A'=>rw[if_neg (by simp),F.first i hi,hAB];rfl
  ·rw[if_neg e,if_neg (fun h=>e h.1)];exact F.first i hi
 ·intro i hi;rw[hhas]at hi
  rw[e0,C.last i hi,hkids,hprev,hnext]
  by_cases e:i=p
  ·subst e
   rw[if_pos rfl]
   cases B with
   |nil=>rw[if_pos ⟨rfl,rfl⟩,List.append_nil]
   |cons b B'=>
    rw[if_neg (by simp),F.last i hi,hAB,List.getLast?_append,List.getLast?_append]
    congr 1
  ·rw[if_neg e,if_neg (fun h=>e h.1)];exact F.last i hi
 ·intro i j hi hj;rw[hhas]at hi hj;exact F.inj i j hi hj
 ·intro s hs hu
  rw[C.len]at hs;rw[C.used]at hu;obtain⟨i,hi,hp⟩:=F.onto s hs hu;exact⟨i,by rw[hhas];exact hi,hp⟩
 ·rw[C.frees,C.len]
  exact⟨F.frees.1,fun s hs=>by rw[C.used];exact F.frees.2 s hs⟩
 ·rw[C.live,F.live,show(G.cut m h p).length=m.length by unfold G.cut;simp]
  congr 2
  exact List.filter_congr (fun x _=>(hhas x).symm)
 ·rw[C.root,F.root]
  unfold hd;rw[C.bs,C.st]
end
end A
end
section
open Go.RowKit Go.Sort
namespace R
open H G A
theorem has_out{m:aa_}{i:Nat}(h:m.length<=i):has m i=false:=by unfold has;rw[dj_ h];rfl
theorem gf_(M:aF_)(i:Nat)(w:World)(h:ab_ w M):Calls Tryz.prog 14 #[.pointer (some ⟨M.mb,0,none⟩),.int .i64 i] w fun e w'=>e=.returned (.bool (has M.m i))/\w=w':=by
 obtain⟨c0,l0,l1⟩:=h.top
 by_cases hi:i<M.nodes.length
 ·obtain⟨_,_,_,_,_,_,k6⟩:=h.cell hi
  have n1:(i:Int)<(M.nodes.length:Int):=by omega
  have n0:(0:Int)<=(i:Int):=by omega
  have HR:Hid (has M.m i = !(nd M.m i).gone):=hi_ rfl;generalize has M.m i=R at *;generalize (nd M.m i).gone=gn at *;clear h hi
  go_enter Tryz.func14,Tryz.ntmps14
  go_wp2_with fail
  go_ret
  exact⟨ao_ (by rw[HR.out]),rfl⟩
 ·have HR:Hid (has M.m i=false):=hi_ (has_out (by rw[M.m_len];omega))
  have n1:¬(i:Int)<(M.nodes.length:Int):=by omega
  have n0:(0:Int)<=(i:Int):=by omega
  generalize has M.m i=R at *;clear h hi
  go_enter Tryz.func14,Tryz.ntmps14
  go_wp2_with fail
  go_ret
  exact⟨ao_ (by rw[HR.out]),rfl⟩
theorem mTop(M:aF_)(i:Nat)(w:World)(h:ab_ w M)(W:WF M.m)(hi:i<M.nodes.length):Calls Tryz.prog 15 #[.pointer (some ⟨M.mb,0,none⟩),.int .i64 i] w fun e w'=>e=.returned (.int .i64 (top M.m i:Nat))/\w=w':=by
 obtain⟨c0,l0,l1⟩:=h.top;have HP:=hi_ (fun y (hy:y<M.nodes.length)=>(h.cell hy).2.2.2.2.1);have hlen:=M.m_len;have hfew:=h.few;have HT:Hid (top M.m i=top M.m i):=hi_ rfl;generalize ht:top M.m i=t at *;have HTt:=hi_ ht;have HI:=hi_ hi;clear h ht hi HT
 go_enter Tryz.func15,Tryz.ntmps15
 go_wp2_with fail
 go_loopw [1] (fun v1 wr=>∃y:Nat,v1=.int .i64 (y:Nat)/\wr=w/\Hid (y<M.nodes.length)/\Hid (top M.m y=t)) (fun v1 _=>depth M.m (aN_ v1).toNat)
 case atStart=>exact⟨i,rfl,rfl,HI,HTt⟩
 case round=>
  obtain⟨y,rfl,rfl,HY,HE⟩:=hrel;have k4:=HP.out y HY.out;have hy:=HY.out;have n1:(y:Int)<(M.nodes.length:Int):=by omega
  clear HTt HI
  cases hp:(nd M.m y).parent with
  |none=>
   rw[hp]at k4;have k4':wr.cell? ⟨M.g,y*7+4,none⟩=some (.int .i64 (-1)):=k4;have HF:=hi_ (show y=t by rw[<-HE.out,W.top_root hp]);clear k4 hp hy;go_wp2_with fail
   go_ret
   exact⟨ay_ (congrArg (fun n:Nat=>(n:Int)) HF.out),rfl⟩
  |some p=>
   rw[hp]at k4;have k4':wr.cell? ⟨M.g,y*7+4,none⟩=some (.int .i64 p):=k4;have n2:(0:Int)<=(p:Int):=by omega
   have HN:=hi_ (show p<M.nodes.length by rw[<-hlen];exact(W.lt hp).2);have HE2:=hi_ (show top M.m p=t by rw[<-HE.out,W.top_step hp]);have HD:=hi_ (W.depth_step hp);clear k4 hp hy;go_wp2_with fail
   go_roundw
   case rel=>exact⟨p,rfl,trivial,HN,HE2⟩
   case measure=>
    show depth M.m ((p:Nat):Int).toNat<depth M.m ((y:Nat):Int).toNat;rw[Int.toNat_natCast,Int.toNat_natCast,HD.out];omega
theorem hJ_(M:aF_)(a b:Nat)(w:World)(h:ab_ w M)(W:WF M.m)(hb:b<M.nodes.length):Calls Tryz.prog 80 #[.pointer (some ⟨M.mb,0,none⟩),.int .i64 a,.int .i64 b] w fun e w'=>e=.returned (.bool (contains M.m a b))/\w=w':=by
 obtain⟨c0,l0,l1⟩:=h.top;have HP:=hi_ (fun y (hy:y<M.nodes.length)=>(h.cell hy).2.2.2.2.1);have hlen:=M.m_len;have hfew:=h.few;generalize ht:contains M.m a b=t at *;have HTt:=hi_ ht;have HI:=hi_ hb;clear h ht hb
 go_enter Tryz.func80,Tryz.ntmps80
 go_wp2_with fail
 go_loopw [2] (fun v2 wr=>∃o:Option Nat,v2=.int .i64 (cm_ o)/\wr=w/\Hid (∀y,o=some y->y<M.nodes.length)/\Hid (t=match o with|some y=>contains M.m a y|none=>false)) (fun v2 _=>if aN_ v2<0 then 0 else depth M.m (aN_ v2).toNat)
 case atStart=>exact⟨some b,rfl,rfl,hi_ (fun y hy=>by injection hy with hy;rw[<-hy];exact HI.out),hi_ HTt.out.symm⟩
 case round=>
  obtain⟨o,rfl,rfl,HO,HE⟩:=hrel;clear HTt HI
  cases o with
  |none=>
   have HF:Hid (t=false):=HE;have e0:cm_ none=-1:=rfl;rw[e0];clear e0;go_wp2_with fail
   go_ret
   exact⟨ao_ HF.out.symm,rfl⟩
  |some y=>
   have hy:=HO.out y rfl;have k4:=HP.out y hy;have n1:(y:Int)<(M.nodes.length:Int):=by omega
   have n0:(0:Int)<=(y:Int):=by omega
   have HE1:Hid (t=contains M.m a y):=HE;have e0:cm_ (some y)=(y:Int):=rfl;rw[e0];clear e0
   by_cases e:a=y
   ·have z1:((a:Int)==(y:Int))=true:=by rw[e];exact beq_self_eq_true _
    have HF:Hid (t=true):=hi_ (by rw[HE1.out,e];exact W.contains_self y);have z2:(a:Int)=(y:Int):=by omega
    clear e hy;go_wp2_with fail
    go_ret
    exact⟨ao_ HF.out.symm,rfl⟩
   ·have z1:((a:Int)==(y:Int))=false:=bn_ (by omega)
    have z2:¬(a:Int)=(y:Int):=by omega
    have HN:Hid (t=match (nd M.m y).parent with|some q=>contains M.m a q|none=>false):=hi_ (by
     rw[HE1.out]
     cases hp:(nd M.m y).parent with
     |none=>rw[W.contains_root hp];exact bn_ e
     |some p=>rw[W.contains_step hp,bn_ e,Bool.false_or])
    have HPh:Hid (∀q,(nd M.m y).parent=some q->q<M.nodes.length):=hi_ (fun q hq=>by rw[<-hlen];exact(W.lt hq).2);have HD:Hid ((if cm_ (nd M.m y).parent<0 then 0 else depth M.m (cm_ (nd M.m y).parent).toNat)<(if ((y:Nat):Int)<0 then 0 else depth M.m ((y:Nat):Int).toNat)):=hi_ (by
     rw[if_neg (by omega:¬((y:Nat):Int)<0),Int.toNat_natCast]
     cases hp:(nd M.m y).parent with
     |none=>rw[if_pos (by show(-1:Int)<0;omega)];exact W.depth_pos y
     |some p=>
      rw[if_neg (by show ¬((p:Nat):Int)<0;omega),show(cm_ (some p)).toNat=p from Int.toNat_natCast p,W.depth_step hp]
      omega)
    generalize (nd M.m y).parent=po at *;clear e hy;go_wp2_with fail
    go_roundw
    case rel=>exact⟨po,rfl,trivial,HPh,HN⟩
    case measure=>exact HD.out
theorem mDepth(M:aF_)(b:Nat)(w:World)(h:ab_ w M)(W:WF M.m)(hb:b<M.nodes.length):Calls Tryz.prog 120 #[.pointer (some ⟨M.mb,0,none⟩),.int .i64 b] w fun e w'=>e=.returned (.int .i64 (depth M.m b:Nat))/\w=w':=by
 obtain⟨c0,l0,l1⟩:=h.top;have HP:=hi_ (fun y (hy:y<M.nodes.length)=>(h.cell hy).2.2.2.2.1);have hlen:=M.m_len;have hfew:=h.few;have hdl:=W.depth_le b;generalize ht:depth M.m b=t at *;have HTt:=hi_ ht;have HI:=hi_ hb;clear h ht hb
 go_enter Tryz.func120,Tryz.ntmps120
 go_wp2_with fail
 go_loopw [1,5] (fun v1 v5 wr=>∃(o:Option Nat) (k:Nat),v1=.int .i64 (cm_ o)/\v5=.int .i64 k/\wr=w/\Hid (∀y,o=some y->y<M.nodes.length)/\k+h4_ M.m o=t) (fun _ v5 _=>129-(aN_ v5).toNat)
 case atStart=>exact⟨some b,0,rfl,rfl,rfl,hi_ (fun y hy=>by injection hy with hy;rw[<-hy];exact HI.out),by show 0+depth M.m b=t;rw[HTt.out];omega⟩
 case round=>
  obtain⟨o,k,rfl,rfl,rfl,HO,hE⟩:=hrel;clear HTt HI
  cases o with
  |none=>
   have HF:Hid (k=t):=hi_ hE;have e0:cm_ none=-1:=rfl;rw[e0];clear e0 hE;go_wp2_with fail
   go_ret
   exact⟨ay_ (congrArg (fun n:Nat=>(n:Int)) HF.out),rfl⟩
  |some y=>
   have hy:=HO.out y rfl;have k4:=HP.out y hy;have n1:(y:Int)<(M.nodes.length:Int):=by omega
   have n0:(0:Int)<=(y:Int):=by omega
   have hE1:k+depth M.m y=t:=hE;have hdy:=W.depth_pos y;have hst:=eK_ W y;have hk:k<=128:=by omega
   have HN:Hid (k+1+h4_ M.m (nd M.m y).parent=t):=hi_ (by omega);have HK:Hid (k<=128):=hi_ hk;have wk:IntKind.i64.wrap ((k:Int)+1)=(k:Int)+1:=IntWalk.i64_in _ (by omega);have e0:cm_ (some y)=(y:Int):=rfl;rw[e0];have HPh:Hid (∀q,(nd M.m y).parent=some q->q<M.nodes.length):=hi_ (fun q hq=>by rw[<-hlen];exact(W.lt hq).2);generalize (nd M.m y).parent=po at *;clear e0 hE hE1 hst hdy hy;go_wp2_with fail
   go_roundw
   case rel=>exact⟨po,k+1,rfl,by first|rfl|(congr 1),trivial,HPh,HN.out⟩
   case measure=>
    have:=HK.out;show 129-((k:Int)+1).toNat<129-((k:Nat):Int).toNat;omega
def atI(l:List Nat)(i:Int):Int:=if i<0 then -1 else match l[i.toNat]? with|some x=>(x:Int)|none=>-1
theorem mAt(v:Value)(l:List Nat)(base:Nat)(i:Int)(w:World)(h:b4_ base w v l):Calls Tryz.prog 122 #[v,.int .i64 i] w fun e w'=>e=.returned (.int .i64 (atI l i))/\w=w':=by
 obtain⟨ao,cap,rfl,hc⟩:=b4_.form h;have HR:Hid (atI l i=if i<0 then -1 else match l[i.toNat]? with|some x=>(x:Int)|none=>-1):=hi_ rfl;generalize atI l i=R at *
 by_cases h0:i<0
 ·have HF:Hid (R=-1):=hi_ (by rw[HR.out,if_pos h0])
  clear h hc
  go_enter Tryz.func122,Tryz.ntmps122
  go_wp2_with fail
  go_ret
  exact⟨ay_ HF.out.symm,rfl⟩
 ·have hR1:=HR.out
  rw[if_neg h0]at hR1
  cases hx:l[i.toNat]? with
  |none=>
   rw[hx]at hR1;have hle:=List.getElem?_eq_none_iff.1 hx;have n1:(l.length:Int)<=i:=by omega
   have HF:Hid (R=-1):=hi_ hR1;clear h hc hR1 hx hle
   go_enter Tryz.func122,Tryz.ntmps122
   go_wp2_with fail
   go_ret
   exact⟨ay_ HF.out.symm,rfl⟩
  |some x=>
   rw[hx]at hR1;have hlt:i.toNat<l.length:=by
    rcases Nat.lt_or_ge i.toNat l.length with h2|h2
    ·exact h2
    ·rw[List.getElem?_eq_none h2]at hx;cases hx
   obtain⟨g,rfl,hg,hcell⟩:=hc _ _ hx;have n1:¬(l.length:Int)<=i:=by omega
   have n2:i<(l.length:Int):=by omega
   have n3:(0:Int)<=i:=by omega
   have HF:Hid (R=(x:Int)):=hi_ hR1;clear h hc hR1 hx hlt
   go_enter Tryz.func122,Tryz.ntmps122
   go_wp2_with fail
   go_ret
   exact⟨ay_ HF.out.symm,rfl⟩
end R
end
section
open Go.RowKit
namespace N
def CS:ByteArray:=⟨#[9,10,12,13,32,47,62]⟩
theorem ns_{l:List UInt8}(h:∀b∈l,b.toNat<128):Asc ⟨l.toArray⟩:=fun j hj=>h _ (by
 have h2:j<l.length:=by rw[H.aM_]at hj;exact hj
 exact List.getElem_mem h2)
theorem n5_:Asc CS:=ns_ (l:=[9,10,12,13,32,47,62]) (by decide)
theorem hL_(s:ByteArray)(w:World)(hs:s.size<4294967281) :
  Calls Tryz.prog 165 #[.string s,.string CS] w fun e w'=>e=.returned (.int .i64 (Lib.indexAny s.data.toList CS.data.toList))/\Below w.heap.size w w':=by
 rcases Nat.lt_or_ge 8 s.size with h|h
 ·refine(Tryz.strings_IndexAny_long (zero_of_info (n:=256) (by kernel_rfl)).1 s CS w (by decide) h hs (by decide) (fun j b hb=>?_)).mono ?_
  ·have hj:j<CS.data.toList.length:=by
    rcases Nat.lt_or_ge j CS.data.toList.length with h1|h1
    ·exact h1
    ·rw[List.getElem?_eq_none h1]at hb;cases hb
   rw[List.getElem?_eq_getElem hj]at hb;injection hb with hb
   rw[<-hb];exact n5_ j hj
  ·rintro e w' ⟨h1,h2⟩
   exact⟨h1,by rw[h2];exact((Below.refl _ w).alloc (nl_) _).alloc (by simp) _⟩
 ·exact gj_ s CS w h n5_ (by decide) (by decide)
theorem fb_(s:ByteArray)(w:World)(hs:s.size<4294967281) :
  Calls Tryz.prog 150 #[.string s,.string ⟨#[9,10,12,13,32,47,62]⟩] w fun e w'=>e=.returned (.bool (decide (0<=Lib.indexAny s.data.toList CS.data.toList)))/\Below w.heap.size w w':=by
 have Q:=hi_ (hL_ s w hs);generalize Lib.indexAny s.data.toList CS.data.toList=z at *;unfold CS at Q
 go_enter Tryz.func150,Tryz.ntmps150
 go_wp2_with fail
 refine Q.out.mono ?_;rintro e w1 ⟨rfl,b1⟩;go_wp2_with fail
 go_ret
 exact⟨H.ao_ (by first|rfl|simp[ge_iff_le]),b1⟩
def gg_(s:List UInt8):Bool:=decide (U.rep s=s) && decide (s.map T.low=s)
theorem n2_(s:ByteArray)(w:World)(hs:s.size<=100000)(hT:T.Tabs w) :
  Calls Tryz.prog 149 #[.string s] w fun e w'=>e=.returned (.bool (gg_ s.data.toList))/\Below w.heap.size w w':=by
 have QV:=hi_ (T.Valid s w (by omega) hT);have QL:=hi_ (fun W=>T.Lower s W (by omega));unfold gg_;generalize decide (U.rep s.data.toList=s.data.toList)=v at *
 go_enter Tryz.func149,Tryz.ntmps149
 go_wp2_with fail
 refine QV.out.mono ?_;rintro e w1 ⟨rfl,b1⟩
 cases v with
 |false=>
  go_wp2_with fail
  go_ret
  exact⟨rfl,b1⟩
 |true=>
  go_wp2_with fail
  refine(QL.out _).mono ?_;rintro e w2 ⟨rfl,b2⟩;have HB:=hi_ (b1.trans (b2.mono b1.size));go_wp2_with fail
  go_ret
  exact⟨H.ao_ (by rw[Lib.toList_data,Bool.true_and];rw[Bool.eq_iff_iff];simp),HB.out⟩
theorem ia_ge(chars:List UInt8):∀s:List UInt8,decide (0<=Lib.indexAny s chars)=s.any (fun b=>chars.contains b)
 |[]=>rfl
 |a :: t=>by
  have ih:=ia_ge chars t;have hg:=Lib.indexAny_ge chars t;rw[Lib.indexAny,List.any_cons]
  cases hc:chars.contains a with
  |true=>rfl
  |false=>
   rw[Bool.false_or,<-ih]
   by_cases h3:Lib.indexAny t chars=-1
   ·rw[h3];rfl
   ·have h5:(Lib.indexAny t chars == -1)=false:=by simpa using h3
    rw[h5];simp only[Bool.false_eq_true,if_false];rw[decide_eq_decide];omega
theorem low_all:∀s:List UInt8,decide (s.map T.low=s)=s.all (fun c=>!(decide (65<=c.toNat) && decide (c.toNat<=90)))
 |[]=>rfl
 |a :: t=>by
  rw[List.all_cons,<-low_all t,Bool.eq_iff_iff,Bool.and_eq_true,decide_eq_true_eq,decide_eq_true_eq,List.map_cons,List.cons.injEq];refine and_congr ?_ Iff.rfl;unfold T.low
  by_cases h:65<=a.toNat/\a.toNat<=90
  ·rw[if_pos h]
   simp only[h.1,h.2,decide_true,Bool.and_true,Bool.not_true,Bool.false_eq_true,iff_false];intro e;have:=congrArg UInt8.toNat e;rw[UInt8.toNat_ofNat']at this;omega
  ·rw[if_neg h]
   simp only[true_iff,Bool.not_eq_true',Bool.and_eq_false_iff,decide_eq_false_iff_not];omega
theorem mn_{α:Type}(p q:α->Bool):∀l:List α,l.all (fun x=>p x && q x)=(l.all p && l.all q)
 |[]=>rfl
 |a :: t=>by rw[List.all_cons,List.all_cons,List.all_cons,mn_ p q t];cases p a<;>cases q a<;>cases t.all p<;>rfl
theorem iW_{α:Type}(p:α->Bool):∀l:List α,(!l.any p)=l.all (fun x=>!p x)
 |[]=>rfl
 |a :: t=>by rw[List.any_cons,List.all_cons,Bool.not_or,iW_ p t]
theorem iQ_(c:UInt8):CS.data.toList.contains c=(G.spB c || c==47 || c==62):=by
 show([9,10,12,13,32,47,62]:List UInt8).contains c=_;unfold G.spB;simp only[List.contains_cons,List.contains_nil,Bool.or_false,Bool.or_assoc]
theorem hD_(s:List UInt8):G.cD_ s=(!s.isEmpty && gg_ s && !decide (0<=Lib.indexAny s CS.data.toList)):=by
 unfold G.cD_ gg_;rw[ia_ge,iW_,low_all];have e:s.all (fun c=>!G.kD_ c)=(s.all (fun c=>!(decide (65<=c.toNat) && decide (c.toNat<=90))) && s.all (fun x=>!CS.data.toList.contains x)):=by
  rw[<-mn_]
  congr 1
  funext c
  unfold G.kD_;rw[iQ_,Bool.not_or,Bool.and_comm]
 rw[e];generalize s.all (fun c=>!(decide (65<=c.toNat) && decide (c.toNat<=90)))=A;generalize s.all (fun x=>!CS.data.toList.contains x)=B;generalize decide (U.rep s=s)=D;generalize s.isEmpty=E
 cases E<;>cases A<;>cases B<;>cases D<;>rfl
theorem lQ_(s:List UInt8):G.bK_ s=(!s.isEmpty && gg_ s && !decide (0<=Lib.indexAny s CS.data.toList) && decide (Lib.indexByte (s.drop 1) 61<0)):=by
 unfold G.bK_;rw[hD_];have e:(s.drop 1).all (fun c=>!(c==61))=decide (Lib.indexByte (s.drop 1) 61<0):=by
  have h:=ib_ge (s.drop 1) 61;have h2:decide (Lib.indexByte (s.drop 1) 61<0) = !decide (0<=Lib.indexByte (s.drop 1) 61):=by
   rw[<-decide_not];exact decide_eq_decide.2 (by omega)
  rw[h2,h,List.contains_eq_any_beq,iW_]
  congr 1
  funext c
  by_cases h:c=61
  ·subst h;rfl
  ·rw[bn_ h,bn_ (fun e=>h e.symm)]
 rw[e,Bool.and_comm]
theorem attrName_(s:List UInt8)(w:World)(hs:s.length<=100000)(hT:T.Tabs w) :
  Calls Tryz.prog 126 #[.string ⟨s.toArray⟩] w fun e w'=>e=.returned (.bool (G.bK_ s))/\Below w.heap.size w w':=by
 have hsz:(⟨s.toArray⟩:ByteArray).size=s.length:=H.aM_ s;have hdt:(⟨s.toArray⟩:ByteArray).data.toList=s:=by simp
 have QL:=n2_ ⟨s.toArray⟩ w (by omega) hT;have QC:=fun W=>fb_ ⟨s.toArray⟩ W (by omega);have QB:∀(x:ByteArray) W,Calls Tryz.prog 153 #[.string x,.int .u8 61] W fun e w'=>e=.returned (.int .i64 (Lib.indexByte x.data.toList 61))/\w'=W:=fun x W=>Tryz.strings_IndexByte x 61 W;rw[hdt]at QL QC;have HQ:=hi_ QL;have HC:=hi_ QC;have HB:=hi_ QB;have HV:=hi_ (lQ_ s);generalize G.bK_ s=V at *;clear QL QC QB hT
 cases s with
 |nil=>
  have HF:Hid (V=false):=HV;clear HQ HC HV hsz hdt
  go_enter Tryz.func126,Tryz.ntmps126
  go_wp2_with fail
  go_ret
  exact⟨H.ao_ HF.out.symm,br_⟩
 |cons c t=>
  have hne:(⟨(c :: t).toArray⟩:ByteArray).toList.isEmpty=false:=by rw[Lib.toList_data];rfl
  have hex:((⟨(c :: t).toArray⟩:ByteArray).extract 1 (⟨(c :: t).toArray⟩:ByteArray).size).data.toList=t:=by
   rw[hsz,Lib.extract_data];simp
  have HV2:Hid (V=(gg_ (c :: t) && !decide (0<=Lib.indexAny (c :: t) CS.data.toList) && decide (Lib.indexByte t 61<0))):=hi_ (by rw[HV.out];rfl);have HEx:=hi_ hex;generalize gg_ (c :: t)=v1 at *;generalize Lib.indexAny (c :: t) CS.data.toList=z at *;clear HV hdt hex;generalize hS:(⟨(c :: t).toArray⟩:ByteArray)=S at *;have hl1:(1:Int)<=(S.size:Int):=by rw[hsz];simp;omega
  clear hS hsz
  go_enter Tryz.func126,Tryz.ntmps126
  go_wp2_with fail
  refine HQ.out.mono ?_;rintro e w1 ⟨rfl,b1⟩;have HB1:=hi_ b1;clear b1
  cases v1 with
  |false=>
   have HF:=hi_ (show V=false by rw[HV2.out];rfl);go_wp2_with fail
   go_ret
   exact⟨H.ao_ HF.out.symm,HB1.out⟩
  |true=>
   have HV3:=hi_ (show V=(!decide (0<=z) && decide (Lib.indexByte t 61<0)) by rw[HV2.out,Bool.true_and]);generalize hd:decide (0<=z)=d at *;clear hd;go_wp2_with fail
   refine(HC.out _).mono ?_;rintro e w2 ⟨rfl,b2⟩;have HB2:=bt_ HB1 b2;clear b2
   cases d with
   |true=>
    have HF:=hi_ (show V=false by rw[HV3.out];rfl);go_wp2_with fail
    go_ret
    exact⟨H.ao_ HF.out.symm,HB2.out⟩
   |false=>
    have HV4:=hi_ (show V=decide (Lib.indexByte t 61<0) by rw[HV3.out];rfl);go_wp2_with fail
    refine(HB.out _ _).mono ?_;rintro e w3 ⟨rfl,rfl⟩;rw[HEx.out];generalize Lib.indexByte t 61=y at *;go_wp2_with fail
    go_ret
    exact⟨H.ao_ HV4.out.symm,HB2.out⟩
end N
end
section
open Go.RowKit Go.Sort
namespace A
open H G
section
variable {T:am_} {m:aa_} {pos:Nat->Nat}
structure mq_(T T':am_)(m:aa_)(pos:Nat->Nat)(h p:Nat)(bef aft:Option Nat):Prop where
 bs:T'.bs=T.bs
 st:T'.st=T.st
 len:T'.slots.length=T.slots.length
 frees:T'.frees=T.frees
 live:T'.live=T.live
 root:T'.root=T.root
 used:∀s,(T'.sl s).used=(T.sl s).used
 same:∀i,has m i=true->(T'.sl (pos i)).kind=(T.sl (pos i)).kind/\(T'.sl (pos i)).name=(T.sl (pos i)).name/\(T'.sl (pos i)).al=(T.sl (pos i)).al/\(T'.sl (pos i)).data=(T.sl (pos i)).data
 parent:∀i,has m i=true->(T'.sl (pos i)).parent=if i=h then hd T pos p else(T.sl (pos i)).parent
 first:∀i,has m i=true->(T'.sl (pos i)).first=if i=p/\bef=none then hd T pos h else(T.sl (pos i)).first
 last:∀i,has m i=true->(T'.sl (pos i)).last=if i=p/\aft=none then hd T pos h else(T.sl (pos i)).last
 prev:∀i,has m i=true->(T'.sl (pos i)).prev=if i=h then hdO T pos bef else if aft=some i then hd T pos h else(T.sl (pos i)).prev
 next:∀i,has m i=true->(T'.sl (pos i)).next=if i=h then hdO T pos aft else if bef=some i then hd T pos h else(T.sl (pos i)).next
theorem lS_{h p k:Nat}(h1:h<m.length)(h2:p<m.length)(i:Nat):has (put m p h k) i=has m i:=by
 unfold has;rw[bx_ h1 h2]
theorem Fits.put{T':am_}{h p k:Nat}(F:Fits T m pos)(hh:has m h=true)(hph:has m p=true)(hr:(nd m h).parent=none)(hne:h≠p)(hk:k<=(nd m p).kids.length)(hWc:WF (G.put m p h k))
  (C:mq_ T T' m pos h p (ag_.prevAt2 (nd m p).kids k) (nd m p).kids[k]?):Fits T' (G.put m p h k) pos:=by
 have W:=F.wf;have hhl:=aR_ hh;have hpl:=aR_ hph;have hd_:=W.nodup p;have e0:∀o,hdO T' pos o=hdO T pos o:=d0_ C.bs C.st;have hhas:=lS_ (m:=m) (k:=k) hhl hpl;have hnot:∀j,h∉(nd m j).kids:=fun j hj=>by
  have:=(W.kid j h hj).2;rw[hr]at this;cases this
 obtain⟨A,B,hAB,hAl⟩:∃A B,(nd m p).kids=A++B/\A.length=k:=⟨_,_,(List.take_append_drop k _).symm,by rw[List.length_take];omega⟩;have hbef:ag_.prevAt2 (nd m p).kids k=A.getLast?:=by rw[hAB,<-hAl,bR_ (nl_),cN_]
 have haft:(nd m p).kids[k]?=B.head?:=by rw[hAB,<-hAl,List.getElem?_append_right (by omega),List.head?_eq_getElem?,Nat.sub_self]
 rw[hbef,haft]at C;have hins:(nd m p).kids.take k++h :: (nd m p).kids.drop k=A++h :: B:=by
  rw[hAB,<-hAl,List.take_left,List.drop_left]
 have hkids:∀j,(nd (G.put m p h k) j).kids=if j=p then A++h :: B else(nd m j).kids:=by
  intro j;rw[bx_ hhl hpl];dsimp only
  by_cases e:j=p
  ·rw[if_pos e,if_pos e,e,hins]
  ·rw[if_neg e,if_neg e]
 have hpar:∀j,(nd (G.put m p h k) j).parent=if j=h then some p else(nd m j).parent:=by
  intro j;rw[bx_ hhl hpl]
 have hnA:h∉A:=fun hA=>hnot p (by rw[hAB];exact List.mem_append_left _ hA);have hnB:h∉B:=fun hA=>hnot p (by rw[hAB];exact List.mem_append_right _ hA);have hAn:A.Nodup:=by rw[hAB]at hd_;exact(List.nodup_append.1 hd_).1
 have hBn:B.Nodup:=by rw[hAB]at hd_;exact(List.nodup_append.1 hd_).2.1
 have hdis:∀x,x∈A->x∈B->False:=fun x h1 h2=>by rw[hAB]at hd_;exact(List.nodup_append.1 hd_).2.2 x h1 x h2 rfl
 have hsib:∀j,has (G.put m p h k) j=true->Sib T' pos (nd (G.put m p h k) j).kids:=by
  intro j hj;rw[hhas]at hj;have hS:=F.sib hj;intro q x hx;rw[e0,e0]
  by_cases e:j=p
  ·subst e
   rw[hkids,if_pos rfl]at hx ⊢;rw[hAB]at hS
   rcases Nat.lt_trichotomy q A.length with hq|hq|hq
   ·have hxA:A[q]?=some x:=by rwa [List.getElem?_append_left hq]at hx
    have hmA:=List.mem_of_getElem? hxA;have hxh:=bu_ F hj (by rw[hAB];exact List.mem_append_left _ hmA);have hxne:x≠h:=by rintro rfl;exact hnA hmA
    obtain⟨s1,s2⟩:=hS q x (by rw[List.getElem?_append_left hq];exact hxA);have hxB:B.head?≠some x:=fun hb=>hdis x hmA (List.mem_of_mem_head? hb);rw[C.prev x hxh,C.next x hxh,if_neg hxne,if_neg hxne,if_neg hxB,s1,s2];refine⟨by rw[bR_ (Nat.le_of_lt hq),bR_ (Nat.le_of_lt hq)],?_⟩
    by_cases hl:q+1=A.length
    ·have:A.getLast?=some x:=by rw[List.getLast?_eq_getElem?,<-hxA];congr 1;omega
     rw[if_pos this,List.getElem?_append_right (by omega),hl,Nat.sub_self];rfl
    ·have:¬A.getLast?=some x:=by
      intro e2;rw[List.getLast?_eq_getElem?]at e2;have h3:=(List.getElem?_inj hq hAn).1 (hxA.trans e2.symm);omega
     rw[if_neg this,List.getElem?_append_left (by omega),List.getElem?_append_left (by omega)]
   ·have hxh:x=h:=by
     rw[hq,List.getElem?_append_right (nl_),Nat.sub_self]at hx;injection hx with hx;exact hx.symm
    subst hxh;rw[C.prev x hh,C.next x hh,if_pos rfl,if_pos rfl];refine⟨?_,?_⟩
    ·rw[hq,bR_ (nl_),cN_]
    ·rw[List.getElem?_append_right (by omega),show q+1-A.length=0+1 by omega,List.getElem?_cons_succ,List.head?_eq_getElem?]
   ·have hxB:B[q-1-A.length]?=some x:=by
     rw[List.getElem?_append_right (by omega),show q-A.length=(q-1-A.length)+1 by omega,List.getElem?_cons_succ]at hx;exact hx
    have hmB:=List.mem_of_getElem? hxB;have hxh:=bu_ F hj (by rw[hAB];exact List.mem_append_right _ hmB);have hxne:x≠h:=by rintro rfl;exact hnB hmB
    have hx0:(A++B)[q-1]?=some x:=by
     rw[List.getElem?_append_right (by omega)];exact hxB
    obtain⟨s1,s2⟩:=hS _ x hx0;have hxA:¬A.getLast?=some x:=fun hb=>hdis x (List.mem_of_mem_getLast? hb) hmB;rw[C.prev x hxh,C.next x hxh,if_neg hxne,if_neg hxne,if_neg hxA,s1,s2];have hqB:q-1-A.length<B.length:=by
     rcases Nat.lt_or_ge (q-1-A.length) B.length with h1|h1
     ·exact h1
     ·rw[List.getElem?_eq_none h1]at hxB;cases hxB
    constructor
    ·by_cases h0:q=A.length+1
     ·have hb:B.head?=some x:=by rw[List.head?_eq_getElem?,<-hxB];congr 1;omega
      rw[if_pos hb];unfold ag_.prevAt2;rw[if_neg (by omega),h0,List.getElem?_append_right (by omega),show A.length+1-1-A.length=0 by omega];rfl
     ·have hb:¬B.head?=some x:=by
       intro e2;rw[List.head?_eq_getElem?]at e2;have h3:=(List.getElem?_inj (by omega) hBn).1 (e2.trans hxB.symm);omega
      rw[if_neg hb]
      congr 1
      unfold ag_.prevAt2;rw[if_neg (by omega),if_neg (by omega),List.getElem?_append_right (by omega),List.getElem?_append_right (by omega),show q-1-A.length=(q-1-1-A.length)+1 by omega,List.getElem?_cons_succ]
    ·congr 1
     rw[List.getElem?_append_right (by omega),List.getElem?_append_right (by omega),show q+1-A.length=(q-1+1-A.length)+1 by omega,List.getElem?_cons_succ]
  ·rw[hkids,if_neg e]at hx ⊢
   have hxk:=List.mem_of_getElem? hx;have hxh:=bu_ F hj hxk;have hxp:=(W.kid j x hxk).2;have hxne:x≠h:=by
    rintro rfl;exact hnot j hxk
   have hno:∀y,y∈(nd m p).kids->y≠x:=by
    rintro y hy rfl;have:=(W.kid p y hy).2;rw[hxp]at this;injection this with this
    exact e this
   have n1:¬B.head?=some x:=fun e2=>hno x (by rw[hAB];exact List.mem_append_right _ (List.mem_of_mem_head? e2)) rfl;have n2:¬A.getLast?=some x:=fun e2=>hno x (by rw[hAB];exact List.mem_append_left _ (List.mem_of_mem_getLast? e2)) rfl;rw[C.prev x hxh,C.next x hxh,if_neg hxne,if_neg hxne,if_neg n1,if_neg n2];exact hS q x hx
 have hlone:∀i,has (G.put m p h k) i=true->(nd (G.put m p h k) i).parent=none->(T'.sl (pos i)).prev=0/\(T'.sl (pos i)).next=0:=by
  intro i hi hn;rw[hhas]at hi;rw[hpar]at hn;rw[C.prev i hi,C.next i hi]
  by_cases e:i=h
  ·rw[if_pos e]at hn;cases hn
  ·rw[if_neg e]at hn
   rw[if_neg e,if_neg e];have hnk:∀y,y∈(nd m p).kids->y≠i:=by
    rintro y hy rfl;have:=(W.kid p y hy).2;rw[hn]at this;cases this
   have n1:¬B.head?=some i:=fun e2=>hnk i (by rw[hAB];exact List.mem_append_right _ (List.mem_of_mem_head? e2)) rfl;have n2:¬A.getLast?=some i:=fun e2=>hnk i (by rw[hAB];exact List.mem_append_left _ (List.mem_of_mem_getLast? e2)) rfl;rw[if_neg n1,if_neg n2];exact F.lone hi hn
 have hpn:=e5_ (T:=T') (pos:=pos) hWc (fun i q hi hq=>jx_ hWc hi hq) hsib hlone;refine { wf:=hWc,lt:=?_,used:=?_,kind:=?_,name:=?_,attrs:=?_,data:=?_,parent:=?_,first:=?_,last:=?_,prev:=hpn.1,next:=hpn.2,inj:=?_,onto:=?_,frees:=?_,live:=?_,root:=?_ }
 ·intro i hi;rw[C.len];exact F.lt i (by rwa [hhas]at hi)
 ·intro i hi;rw[C.used];exact F.used i (by rwa [hhas]at hi)
 ·intro i hi;rw[hhas]at hi;rw[(C.same i hi).1,F.kind i hi,bx_ hhl hpl]
 ·intro i hi;rw[hhas]at hi;rw[(C.same i hi).2.1,F.name i hi,bx_ hhl hpl]
 ·intro i hi;rw[hhas]at hi;rw[(C.same i hi).2.2.1,F.attrs i hi,bx_ hhl hpl]
 ·intro i hi;rw[hhas]at hi;rw[(C.same i hi).2.2.2,F.data i hi,bx_ hhl hpl]
 ·intro i hi;rw[hhas]at hi
  rw[e0,C.parent i hi,hpar]
  by_cases e:i=h
  ·rw[if_pos e,if_pos e];rfl
  ·rw[if_neg e,if_neg e];exact F.parent i hi
 ·intro i hi;rw[hhas]at hi
  rw[e0,C.first i hi,hkids]
  by_cases e:i=p
  ·subst e
   rw[if_pos rfl]
   cases A with
   |nil=>rw[if_pos ⟨rfl,rfl⟩];rfl
   |cons a A'=>rw[if_neg (by simp),F.first i hi,hAB];rfl
  ·rw[if_neg e,if_neg (fun h=>e h.1)];exact F.first i hi
 ·intro i hi;rw[hhas]at hi
  rw[e0,C.last i hi,hkids]
  by_cases e:i=p
  ·subst e
   rw[if_pos rfl]
   cases B with
   |nil=>rw[if_pos ⟨rfl,rfl⟩,List.getLast?_append];rfl
   |cons b B'=>
    rw[if_neg (by simp),F.last i hi,hAB,List.getLast?_append,List.getLast?_append]
    congr 1
  ·rw[if_neg e,if_neg (fun h=>e h.1)];exact F.last i hi
 ·intro i j hi hj;rw[hhas]at hi hj;exact F.inj i j hi hj
 ·intro s hs hu
  rw[C.len]at hs;rw[C.used]at hu;obtain⟨i,hi,hp⟩:=F.onto s hs hu;exact⟨i,by rw[hhas];exact hi,hp⟩
 ·rw[C.frees,C.len]
  exact⟨F.frees.1,fun s hs=>by rw[C.used];exact F.frees.2 s hs⟩
 ·rw[C.live,F.live,show(G.put m p h k).length=m.length by unfold G.put;simp]
  congr 2
  exact List.filter_congr (fun x _=>(hhas x).symm)
 ·rw[C.root,F.root]
  unfold hd;rw[C.bs,C.st]
end
end A
end
section
open Go.RowKit Go.Sort
namespace A
open H G
theorem g8_:(Tryz.prog.info? 142).map (fun i=>(i.zero,i.size,i.bytes))=some (some (.agg #[.string ⟨#[]⟩,.string ⟨#[]⟩]),2,32):=by kernel_rfl
theorem aw_.form{w:World}{v:Value}{l:List (List UInt8×List UInt8)}(h:aw_ w v l):(v=.slice none 0 0/\l=[])\/∃g cap,v=.slice (some ⟨g,0,none⟩) l.length cap/\g<w.heap.size:=by
 unfold aw_ ac_ at h
 rcases h.2 with⟨h1,h2⟩|⟨g,cap,cur,h1,hb,hg,_⟩
 ·exact Or.inl ⟨h1,List.length_eq_zero_iff.1 h2⟩
 ·exact Or.inr ⟨g,cap,h1,lt_of_block hg⟩
theorem co_{l:List (List UInt8×List UInt8)}:∀u∈l.flatMap ai_,u.oneCell'=true:=by
 intro u hu;obtain⟨p,_,hp⟩:=List.mem_flatMap.1 hu;unfold ai_ at hp
 rcases List.mem_cons.1 hp with rfl|hp
 ·rfl
 ·rcases List.mem_cons.1 hp with rfl|hp
  ·rfl
  ·cases hp
theorem dz_(v:Value)(l:List (List UInt8×List UInt8))(w:World)(h:aw_ w v l)(hl:l.length<=100000) :
  Calls Tryz.prog 101 #[v] w fun e w'=>∃v',e=.returned v'/\ac_ ai_ w.heap.size 142 2 w' v' l/\Below w.heap.size w w':=by
 obtain⟨i0,hi0,hz0,hz1,hz2⟩:=info_parts g8_;have q124:∀(w:World) (a:Option Addr) (n c n' c':Nat),(binOp .eql 124 (.slice a n c) (.slice none n' c')).run Tryz.prog w=.ok (.bool a.isNone) w:=fun w a n c n' c'=>Lib.run_eql_slice_nil w _ _ a n c n' c' Tryz.underlying124
 rcases h.form with⟨rfl,rfl⟩|⟨g,cap,rfl,hlt⟩
 ·go_enter Tryz.func101,Tryz.ntmps101
  go_wp2_with fail
  go_ret
  exact⟨_,rfl,World.ownsRow_nil _ _ _ _,br_⟩
 ·have HC:=hi_ (fun j u (hu:(l.flatMap ai_)[j]?=some u)=>(show w.cell? ⟨g,j,none⟩=some u from by
   have hj:j<(l.flatMap ai_).length:=by
    rcases Nat.lt_or_ge j (l.flatMap ai_).length with h2|h2
    ·exact h2
    ·rw[List.getElem?_eq_none h2]at hu;cases hu
   rw[((ae_ h).2.2.2 j hj).1,hu]))
  have HLn:=hi_ (bL_ aq_ l);have HOn:=hi_ (co_ (l:=l));unfold ac_;generalize l.flatMap ai_=xs at *;generalize hn:l.length=n at *;clear h hn
  go_enter Tryz.func101,Tryz.ntmps101
  go_wp2_with (at_builtin;refine wpList_append_own _ rfl _ _ 124 rfl w.heap.size 142 i0 _ 2 32 Tryz.underlying124 hi0 hz0 hz1 hz2 rfl (by decide) _ _ _ rfl (World.ownsRow_made w #[] 0 (nl_) (Nat.zero_le _) rfl) ⟨g,0,none⟩ n cap xs rfl ?c1 ?c2 ?c3 ?c4 ?c5 ?c6 ?_)
  case c1=>exact HLn.out
  case c2=>
   intro j u hj;have e:(⟨g,0,none⟩:Addr).add j=⟨g,j,none⟩:=by unfold Addr.add;split<;>simp_all
   rw[e];exact Lib.cell?_alloc_some _ (HC.out j u hj)
  case c3=>exact HOn.out
  case c4=>unfold maxLen;omega
  case c5=>omega
  case c6=>simp
  intro v' w1 hown hgrow hnil;go_wp2_with fail
  go_ret
  refine⟨v',rfl,by simpa using hown,?_⟩;exact((Below.refl _ w).alloc (nl_) _).grown hgrow (by simp) (by intro k hk;simp[Value.ownBlock]at hk;omega)
theorem mh_(w:World):Calls Tryz.prog 101 #[.slice none 0 0] w fun e w'=>e=.returned (.slice none 0 0)/\w=w':=by
 have q124:∀(w:World) (a:Option Addr) (n c n' c':Nat),(binOp .eql 124 (.slice a n c) (.slice none n' c')).run Tryz.prog w=.ok (.bool a.isNone) w:=fun w a n c n' c'=>Lib.run_eql_slice_nil w _ _ a n c n' c' Tryz.underlying124
 go_enter Tryz.func101,Tryz.ntmps101
 go_wp2_with fail
 go_ret
 exact⟨rfl,rfl⟩
section
variable {w w0:World} {g:Nat} {t:TypeId} {cs:Array Value}
def set9(w:World)(g:Nat)(b0 b1 b2 b3 b4 b5 b6 b7 b8:Value):World:=((((((((w.setCell ⟨g,0,none⟩ b0).setCell ⟨g,1,none⟩ b1).setCell ⟨g,2,none⟩ b2).setCell ⟨g,3,none⟩ b3).setCell ⟨g,4,none⟩ b4).setCell ⟨g,5,none⟩ b5).setCell ⟨g,6,none⟩ b6).setCell ⟨g,7,none⟩ b7).setCell ⟨g,8,none⟩ b8
theorem Blk.set9{a0 a1 a2 a3 a4 a5 a6 a7 a8:Value}(h:Blk g #[a0,a1,a2,a3,a4,a5,a6,a7,a8] t w)(b0 b1 b2 b3 b4 b5 b6 b7 b8:Value):Blk g #[b0,b1,b2,b3,b4,b5,b6,b7,b8] t (A.set9 w g b0 b1 b2 b3 b4 b5 b6 b7 b8):=
 by
 have h9:=((((((((h.set 0 b0).set 1 b1).set 2 b2).set 3 b3).set 4 b4).set 5 b5).set 6 b6).set 7 b7).set 8 b8;simp only[List.setIfInBounds_toArray,List.set_cons_zero,List.set_cons_succ]at h9;exact h9
theorem d2_{B:Nat}(h:Below B w0 w)(hg:B<=g)(b0 b1 b2 b3 b4 b5 b6 b7 b8:Value):Below B w0 (set9 w g b0 b1 b2 b3 b4 b5 b6 b7 b8):=
 a0_ (a0_ (a0_ (a0_ (a0_ (a0_ (a0_ (a0_ (a0_ h hg) hg) hg) hg) hg) hg) hg) hg) hg
theorem bZ_{a0 a1 a2 a3 a4 a5 a6 a7 a8:Value}(h:Blk g #[a0,a1,a2,a3,a4,a5,a6,a7,a8] t w) :
  (w.cell? ⟨g,0,none⟩=some a0/\w.cell? ⟨g,1,none⟩=some a1/\w.cell? ⟨g,2,none⟩=some a2/\w.cell? ⟨g,3,none⟩=some a3/\w.cell? ⟨g,4,none⟩=some a4/\w.cell? ⟨g,5,none⟩=some a5/\w.cell? ⟨g,6,none⟩=some a6/\w.cell? ⟨g,7,none⟩=some a7/\w.cell? ⟨g,8,none⟩=some a8) ∧
  (w.frozen? ⟨g,0,none⟩=false/\w.frozen? ⟨g,1,none⟩=false/\w.frozen? ⟨g,2,none⟩=false/\w.frozen? ⟨g,3,none⟩=false/\w.frozen? ⟨g,4,none⟩=false/\w.frozen? ⟨g,5,none⟩=false/\w.frozen? ⟨g,6,none⟩=false/\w.frozen? ⟨g,7,none⟩=false/\w.frozen? ⟨g,8,none⟩=false):=by
 obtain⟨hc,hf⟩:=ad_ h;exact⟨⟨hc 0,hc 1,hc 2,hc 3,hc 4,hc 5,hc 6,hc 7,hc 8⟩,⟨hf 0 (by show 0<9;omega),hf 1 (by show 1<9;omega),hf 2 (by show 2<9;omega),hf 3 (by show 3<9;omega),hf 4 (by show 4<9;omega),hf 5 (by show 5<9;omega),hf 6 (by show 6<9;omega),hf 7 (by show 7<9;omega),hf 8 (by show 8<9;omega)⟩⟩
end
theorem aw_.slice{w:World}{v:Value}{l:List (List UInt8×List UInt8)}(h:aw_ w v l):∃ao cap,v=.slice ao l.length cap:=by
 rcases h.form with⟨rfl,rfl⟩|⟨g,cap,rfl,_⟩
 ·exact⟨none,0,rfl⟩
 ·exact⟨_,cap,rfl⟩
def eb_(r:em_)(v:Value):Value:=.agg #[.int .i64 r.kind,.string ⟨r.name.toArray⟩,v,.string ⟨r.data.toArray⟩,.int .i64 r.parent,.int .i64 r.first,.int .i64 r.last,.int .i64 r.prev,.int .i64 r.next]
theorem aj_.attrs{T:am_}{m:aa_}{pos:Nat->Nat}{w:World}(hT:aj_ w T m pos){i:Nat}(hi:has m i=true):aw_ w (T.sl (pos i)).attrs (T.sl (pos i)).al:=by
 have h1:=hT.fits.lt i hi;rw[gX_ h1];exact hT.mem.attrs _ (List.getElem_mem h1)
theorem get_(T:am_)(m:aa_)(pos:Nat->Nat)(i:Nat)(w:World)(hT:aj_ w T m pos)(hi:has m i=true) :
  Calls Tryz.prog 100 #[.pointer (some ⟨T.tb,0,none⟩),.int .i64 (hd T pos i)] w fun e w'=>e=.returned (.tuple #[eb_ (T.sl (pos i)) (T.sl (pos i)).attrs,.bool true])/\Below w.heap.size w w':=by
 have hF:=hT.fits;have hfew:=hT.mem.few;have hb:=bA_ hfew hF hi;have hp:=aP_ (T:=T) (pos:=pos) i;have pI:=bH_ hfew hF hi 0;have hB1:=(Below.refl w.heap.size w).alloc (nl_) (.cells #[.int .i64 0,.string ⟨#[]⟩,.slice none 0 0,.string ⟨#[]⟩,.int .i64 0,.int .i64 0,.int .i64 0,.int .i64 0,.int .i64 0] 126);have Q1:=hi_ (fun W (hW:Below w.heap.size w W)=>find T (hd T pos i) W (hT.below hW).mem (by omega) (by omega));rw[pI]at Q1;have HC:=hi_ (fun W (hW:Below w.heap.size w W) k (hk:k<10)=>((hT.below hW).cell hi hk).1);have hlg:=(ae_ hT.mem.row).1;obtain⟨ao,acap,hat⟩:=(hT.attrs hi).slice;unfold eb_;generalize T.sl (pos i)=r at *;generalize r.al.length=an at *;generalize hd T pos i=z at *;clear hT pI
 go_enter Tryz.func100,Tryz.ntmps100
 go_wp2_with fail
 refine(Q1.out _ hB1).mono ?_;rintro e w2 ⟨rfl,hb2⟩;have HB2:=hi_ (hB1.trans (hb2.mono hB1.size));have c1:=HC.out w2 HB2.out 1 (by omega);have c2:=HC.out w2 HB2.out 2 (by omega);have c3:=HC.out w2 HB2.out 3 (by omega);have c4:=HC.out w2 HB2.out 4 (by omega);have c5:=HC.out w2 HB2.out 5 (by omega);have c6:=HC.out w2 HB2.out 6 (by omega);have c7:=HC.out w2 HB2.out 7 (by omega);have c8:=HC.out w2 HB2.out 8 (by omega);have c9:=HC.out w2 HB2.out 9 (by omega);simp only[a5_,List.getElem?_cons_succ,List.getElem?_cons_zero]at c1 c2 c3 c4 c5 c6 c7 c8 c9;rw[hat]at c3;have HA:=hi_ hat;clear hat;have hb0:Blk w.heap.size #[.int .i64 0,.string ⟨#[]⟩,.slice none 0 0,.string ⟨#[]⟩,.int .i64 0,.int .i64 0,.int .i64 0,.int .i64 0,.int .i64 0] 126 w2:=(Blk.new w _ _).below hb2;have HB0:=hi_ hb0
 obtain⟨⟨k0,k1,k2,k3,k4,k5,k6,k7,k8⟩,⟨f0,f1,f2,f3,f4,f5,f6,f7,f8⟩⟩:=bZ_ hb0;clear hb2 hb0;go_wp2_with fail
 have h9:=Blk.set9 HB0.out (.int .i64 r.kind) (.string ⟨r.name.toArray⟩) (.slice ao an acap) (.string ⟨r.data.toArray⟩) (.int .i64 r.parent) (.int .i64 r.first) (.int .i64 r.last) (.int .i64 r.prev) (.int .i64 r.next);have hb9:=d2_ HB2.out (nl_) (.int .i64 r.kind) (.string ⟨r.name.toArray⟩) (.slice ao an acap) (.string ⟨r.data.toArray⟩) (.int .i64 r.parent) (.int .i64 r.first) (.int .i64 r.last) (.int .i64 r.prev) (.int .i64 r.next);obtain⟨⟨l0,l1,l2,l3,l4,l5,l6,l7,l8⟩,_⟩:=bZ_ h9;change bodyPost _ _ _ _ _ (set9 w2 w.heap.size (.int .i64 r.kind) (.string ⟨r.name.toArray⟩) (.slice ao an acap) (.string ⟨r.data.toArray⟩) (.int .i64 r.parent) (.int .i64 r.first) (.int .i64 r.last) (.int .i64 r.prev) (.int .i64 r.next))
 generalize set9 w2 w.heap.size (.int .i64 r.kind) (.string ⟨r.name.toArray⟩) (.slice ao an acap) (.string ⟨r.data.toArray⟩) (.int .i64 r.parent) (.int .i64 r.first) (.int .i64 r.last) (.int .i64 r.prev) (.int .i64 r.next)=W9 at *;refine bodyPost_ret (v:=.tuple #[.agg #[.int .i64 r.kind,.string ⟨r.name.toArray⟩,.slice ao an acap,.string ⟨r.data.toArray⟩,.int .i64 r.parent,.int .i64 r.first,.int .i64 r.last,.int .i64 r.prev,.int .i64 r.next],.bool true]) (by simp[results,Tryz.results100,go_sem,l0,l1,l2,l3,l4,l5,l6,l7,l8]) rfl ⟨by rw[HA.out],hb9⟩
end A
end
section
open Go.RowKit Go.Sort
namespace A
open H G
theorem path_(T:am_)(m:aa_)(pos:Nat->Nat)(j:Nat)(w:World)(hT:aj_ w T m pos)(hj:has m j=true) :
  Calls Tryz.prog 97 #[.pointer (some ⟨T.tb,0,none⟩),.int .i64 (hd T pos j)] w fun e w'=>∃v,e=.returned v/\Below w.heap.size w w'/\b4_ w.heap.size w' v (ba_ m j):=by
 have hF:=hT.fits;have hfew:=hT.mem.few;have HT:=hi_ hT;have hdl:=hF.wf.depth_le j;have QA:=hi_ (fun(z:Int) (h0:0<=z) (h1:z<=1000001000) W (hb:Below w.heap.size w W)=>at_ T z W (hT.below hb).mem (by omega) (by omega));have QI:=hi_ (fun(y p:Nat) (hy:has m y=true) (hp:(nd m y).parent=some p) W (hb:Below w.heap.size w W)=>dY_ T m pos y p W (hT.below hb) hy hp);have hbj:=bA_ hfew hF hj;have hpj:=aP_ (T:=T) (pos:=pos) j;have Q2:=hi_ (QA.out (hd T pos j) (by omega) hbj w (Below.refl _ w));have HJh:=hi_ hj;clear hT;generalize hpt:T.ptr 1 (hd T pos j)=pt at Q2;have HPT:=hi_ hpt;clear hpt;obtain⟨i0,hi0,hz0,hz1,hz2⟩:=info_parts c8_
 go_enter Tryz.func97,Tryz.ntmps97
 go_wp2_with fail
 refine Q2.out.mono ?_;rintro e w2 ⟨rfl,hb2⟩;have HB2:=hi_ hb2;clear hb2 Q2;go_wp2_with fail
 go_loopw [1,5,6] (fun v1 v5 v6 wr=>∃(y:Nat) (d:List Nat),v1=.int .i64 (hd T pos y)/\v6=.pointer (T.ptr 1 (hd T pos y))/\Hid (has m y=true)/\Hid (ba_ m j=ba_ m y++d.reverse)/\Hid (d.length+depth m y=depth m j)/\Hid (Below w.heap.size w wr)/\Hid (b4_ w.heap.size wr v5 d)) (fun v1 _ _ _=>deep T m pos (aN_ v1))
 case atStart=>
  refine⟨j,[],rfl,by rw[HPT.out],HJh,hi_ (by simp),hi_ (by simp),HB2,hi_ ?_⟩;exact World.ownsRow_nil _ _ _ _
 case round=>
  obtain⟨y,d,rfl,rfl,HH,HC,HL,HU,HO⟩:=hrel;clear HJh HB2 HPT;have hy:=HH.out;obtain⟨e1,k5,hr,hD,hPh⟩:=ce_ HT.out HU.out hy;have e2:T.ptr 1 (hd T pos y)=some ⟨T.g,pos y*10+1,none⟩:=e1;have hdp:=hF.wf.depth_pos y;have hl2:d.length<=128:=by have:=HL.out;omega
  have HD2:Hid (d.length<=128):=hi_ hl2;have hform:∃ao cap,u5=.slice ao d.length cap:=by
   rcases HO.out.2 with⟨h1,h2⟩|⟨g,cap,cur,h1,_⟩
   ·exact⟨none,0,by rw[h1,h2]⟩
   ·exact⟨_,cap,h1⟩
  obtain⟨ao,cap,rfl⟩:=hform;rw[e2];clear e1 e2
  cases hp:(nd m y).parent with
  |none=>
   rw[hp]at k5;have k5':wr.cell? ⟨T.g,pos y*10+5,none⟩=some (.int .i64 0):=k5;have HE:Hid (ba_ m j=d.reverse):=hi_ (by rw[HC.out,a7_ hp];rfl);have hzz:aE_ d=(d.map fun n:Nat=>(n:Int)).map (Value.int .i64):=by unfold aE_;simp
   have QR:Hid (Calls Tryz.prog 141 #[.slice ao d.length cap] wr fun e w'=>e=.returned (.tuple #[])/\Below w.heap.size w w'/\b4_ w.heap.size w' (.slice ao d.length cap) d.reverse):=hi_ (by
    have ho:=HO.out;unfold b4_ at ho
    by_cases hv:Value.slice ao d.length cap=.slice none 0 0
    ·have h0:d=[]:=by injection hv with _ h _;exact List.length_eq_zero_iff.1 h
     subst h0;refine(Tryz.slices_Reverse_int_empty ao cap wr).mono ?_;rintro e w' ⟨rfl,rfl⟩;exact⟨rfl,HU.out,ho⟩
    ·rw[hzz]at ho
     obtain⟨g,cap',hv',hb,hg,hn,hm,hl,hH⟩:=Go.Lib.holds_of_ownsRow ho hv;injection hv' with h1 _ h3
     subst h1;subst h3;have h:=Tryz.slices_Reverse_int g 0 cap (d.map fun n:Nat=>(n:Int)) wr hH (by simp;omega);rw[List.length_map]at h;refine h.mono ?_;rintro e w' ⟨rfl,n,rfl⟩;refine⟨rfl,Go.Lib.below_putRow HU.out hb,?_⟩;have h2:=Go.Lib.ownsRow_putRow (q:=n) ho (ys:=(d.map fun n:Nat=>(n:Int)).reverse) (by simp) (nl_);unfold b4_;rw[List.length_reverse];have e5:aE_ d.reverse=(((d.map fun n:Nat=>(n:Int)).reverse).take d.length).map (Value.int .i64):=by
      rw[List.take_of_length_le (by simp)];unfold aE_;simp
     rw[e5];exact h2)
   clear k5 hzz hPh hr hD hp;go_wp2_with fail
   refine QR.out.mono ?_;rintro e3 w3 ⟨rfl,hb3,ho3⟩;have HB3:=hi_ hb3;have HO3:=hi_ ho3;clear hb3 ho3;go_wp2_with fail
   go_ret
   exact⟨_,rfl,HB3.out,by rw[HE.out];exact HO3.out⟩
  |some p=>
   rw[hp]at k5 hr hD;have HP:=hi_ hp;have hph:=hPh p hp;have k5':wr.cell? ⟨T.g,pos y*10+5,none⟩=some (.int .i64 (hd T pos p)):=k5;have hne:¬hd T pos p=0:=by have:=aP_ (T:=T) (pos:=pos) p;omega
   have hne2:(hd T pos p==0)=false:=bn_ hne;have Q3:=hi_ (QI.out y p hy hp wr HU.out);generalize hix:(nd m p).kids.idxOf y=ix at Q3;have HIX:=hi_ hix;have HPh:=hi_ hph;have HD:=hi_ hD;clear k5 hp hph hix hD hPh;generalize hzy:hd T pos y=zy at *;have HZY:=hi_ hzy;clear hzy;go_wp2_with fail
   refine Q3.out.mono ?_;rintro e3 w3 ⟨rfl,hb3⟩;have HU3:=bt_ HU hb3;have HO3:=hi_ (show w3.ownsRow w.heap.size 3 1 (.slice ao d.length cap) d.length (aE_ d) by
    refine⟨HO.out.1,?_⟩
    rcases HO.out.2 with hn|⟨g,cap,cur,hv,hb,hgg,rest⟩
    ·exact Or.inl hn
    ·exact Or.inr ⟨g,cap,cur,hv,hb,(hb3.block g (lt_of_block hgg)).trans hgg,rest⟩)
   have hsz3:=HU3.out.size;go_wp2_with (at_builtin;refine wpList_append_lies _ rfl _ _ 39 rfl w.heap.size 3 i0 _ 1 8 Tryz.underlying39 hi0 hz0 hz1 hz2 rfl (by decide) (.slice ao d.length cap) d.length (aE_ d) rfl (HO3.out.alloc _) ⟨w3.heap.size,0,none⟩ 1 1 [.int .i64 ix] rfl rfl ?c1 ?c2 ?c3 ?c4 ?c5 ?c6 (w3.heap.size+1) ?c7 ?_)
   case c1=>exact World.news_of_block (heap_alloc_new w3 (.cells #[.int .i64 ix] 3))
   case c2=>simp[Value.oneCell']
   case c3=>omega
   case c4=>unfold maxLen;omega
   case c5=>omega
   case c6=>simp;omega
   case c7=>simp
   intro gg cap2 w5 hown5 hgrow hat5 hlt5;have hlen6:(d++[ix]).length=d.length+1:=by simp
   have hv6:aE_ (d++[ix])=aE_ d++[.int .i64 ix]:=by unfold aE_;simp
   have HO5:Hid (b4_ w.heap.size w5 (.slice (some ⟨gg,0,none⟩) (d.length+1) cap2) (d++[ix])):=hi_ (by
    unfold b4_;rw[hlen6,hv6];exact hown5)
   have HB5:Hid (Below w.heap.size w w5):=hi_ ((HU3.out.alloc hsz3 _).grown hgrow (by simp;omega) (fun q hq=>(HO3.out.lt q hq).1));have k5b:=(ce_ HT.out HB5.out hy).2.1;rw[HP.out]at k5b;have k55:w5.cell? ⟨T.g,pos y*10+5,none⟩=some (.int .i64 (hd T pos p)):=k5b;have Q4:=hi_ (QA.out (hd T pos p) hr.1 hr.2 w5 HB5.out);clear k5' k5b hown5 hgrow hat5 hv6 hlen6;go_wp2_with fail
   refine Q4.out.mono ?_;rintro e4 w6 ⟨rfl,hb6⟩;have HU6:=bt_ HB5 hb6;have HO6:Hid (b4_ w.heap.size w6 (.slice (some ⟨gg,0,none⟩) (d.length+1) cap2) (d++[ix])):=hi_ (by
    refine⟨HO5.out.1,?_⟩
    rcases HO5.out.2 with hn|⟨g,cap,cur,hv,hb,hgg,rest⟩
    ·exact Or.inl hn
    ·exact Or.inr ⟨g,cap,cur,hv,hb,(hb6.block g (lt_of_block hgg)).trans hgg,rest⟩)
   go_wp2_with fail
   go_roundw
   case rel=>
    refine⟨p,d++[ix],rfl,rfl,HPh,hi_ ?_,hi_ ?_,HU6,HO6⟩
    ·rw[HC.out,hF.wf.pidx_step HP.out,HIX.out];simp
    ·have h1:=HL.out
     have h2:=hF.wf.depth_step HP.out
     simp;omega
   case measure=>rw[<-HZY.out]at *;exact HD.out
theorem eO_.form{T:am_}{pos:Nat->Nat}{base:Nat}{w:World}{v:Value}{l:List Nat}(h:eO_ T pos base w v l):∃ao cap,v=.slice ao l.length cap/\∀i c,l[i]?=some c->∃g,ao=some ⟨g,0,none⟩/\g<w.heap.size/\base<=g/\w.cell? ⟨g,i,none⟩=some (.int .i64 (hd T pos c)):=by
 unfold eO_ at h;have h0:=h
 rcases h.2 with⟨h1,h2⟩|⟨g,cap,cur,h1,_⟩
 ·refine⟨none,0,by rw[h1,h2],fun i c hc=>?_⟩
  rw[List.length_eq_zero_iff.1 h2]at hc
  cases hc
 ·rw[h1]at h0
  refine⟨_,cap,h1,fun i c hc=>⟨g,rfl,?_,?_,?_⟩⟩
  ·exact(ae_ h0).1
  ·exact(ae_ h0).2.1
  ·have hi:i<l.length:=(List.getElem?_eq_some_iff.1 hc).1
   rw[((ae_ h0).2.2.2 i (by unfold hO_;rw[List.length_map];exact hi)).1];unfold hO_;rw[List.getElem?_map,hc];rfl
theorem hG_{l:List Nat}{f:Nat->Nat}{i c:Nat}(h:l[i]?=some c):ey_ ((l.take (i+1)).map f)=max (ey_ ((l.take i).map f)) (f c):=by
 rw[List.take_add_one,h];unfold ey_;simp[List.foldl_append]
theorem kd_(m:aa_):∀n h,cz_ m n h<=n:=by
 intro n
 induction n with
 |zero=>intro h;exact Nat.le_refl 0
 |succ n ih=>
  intro h;show ey_ ((nd m h).kids.map (cz_ m n))+1<=n+1;have:ey_ ((nd m h).kids.map (cz_ m n))<=n:=fN_ (fun x hx=>by
   obtain⟨c,_,rfl⟩:=List.mem_map.1 hx;exact ih c)
  omega
theorem dH_(m:aa_)(h:Nat):aA_ m h<=128:=kd_ m 128 h
theorem js_(m:aa_)(l:List Nat):ey_ (l.map (aA_ m))<=128:=fN_ (fun x hx=>by
 obtain⟨c,_,rfl⟩:=List.mem_map.1 hx;exact dH_ m c)
theorem height_(T:am_)(m:aa_)(pos:Nat->Nat):∀(n j:Nat) (w:World),aA_ m j<=n->aj_ w T m pos->has m j=true →
  Calls Tryz.prog 116 #[.pointer (some ⟨T.tb,0,none⟩),.int .i64 (hd T pos j)] w fun e w'=>e=.returned (.int .i64 (aA_ m j:Nat))/\Below w.heap.size w w':=by
 intro n
 induction n with
 |zero=>
  intro j w hn hT hj;rw[hT.fits.wf.height_eq j]at hn;omega
 |succ n ih=>
 intro j w hn hT hj;have hF:=hT.fits;have HT:=hi_ hT;have IH:=hi_ (fun(c:Nat) (hc:c∈(nd m j).kids) W (hb:Below w.heap.size w W)=>ih c W (by have:=hF.wf.height_kid hc;omega) (hT.below hb) (bu_ hF hj hc));have Q1:=hi_ (j8_ T m pos j w hT hj);have HE:=hi_ (hF.wf.height_eq j);have hkf:=cH_ hT.mem.few hF hj;clear ih hT hn
 go_enter Tryz.func116,Tryz.ntmps116
 go_wp2_with fail
 refine Q1.out.mono ?_;rintro e w1 ⟨v,rfl,hb1,ho1⟩;obtain⟨ao,cap,rfl,hcs⟩:=ho1.form;have HB1:=hi_ hb1;have HCS:=hi_ hcs;clear hb1 ho1 hcs Q1;generalize hl:(nd m j).kids=l at *;generalize hlen:l.length=len at *;have HLen:=hi_ hlen;clear hlen;go_wp2_with fail
 go_loopw [5,12] (fun v5 v12 wr=>∃i:Nat,v5=.int .i64 (ey_ ((l.take i).map (aA_ m)):Nat)/\v12=.int .i64 (i:Nat)/\i<=len/\Hid (Below w.heap.size w wr)/\Hid (Below w1.heap.size w1 wr)) (fun _ v12 _=>len-(aN_ v12).toNat)
 case atStart=>exact⟨0,rfl,rfl,by omega,HB1,hi_ (br_)⟩
 case round=>
  obtain⟨i,rfl,rfl,hi,HU,HU1⟩:=hrel;have hm1:=js_ m (l.take i);generalize hmx:ey_ ((l.take i).map (aA_ m))=mx at *;have HMX:=hi_ hmx;clear hmx HB1
  by_cases hq:i=len
  ·have hF2:Hid ((mx:Int)+1=(aA_ m j:Nat)):=hi_ (by
    rw[HE.out,<-HMX.out,List.take_of_length_le (by rw[HLen.out];omega)];rfl)
   have hnl:¬((i:Int)<(len:Int)):=by omega
   go_wp2_with fail
   go_ret
   exact⟨ay_ (by have:=hF2.out;simpa using this),HU.out⟩
  ·have hil:i<l.length:=by rw[HLen.out];omega
   have hlt:(i:Int)<(len:Int):=by omega
   have hx:l[i]?=some l[i]:=List.getElem?_eq_getElem hil;obtain⟨g,rfl,hg1,hg2,hcell⟩:=HCS.out _ _ hx;have hcr:wr.cell? ⟨g,i,none⟩=some (.int .i64 (hd T pos l[i])):=(HU1.out.cell (p:=⟨g,i,none⟩) hg1).trans hcell;have hm2:=hG_ (f:=aA_ m) hx;have Q3:=hi_ (IH.out _ (List.mem_of_getElem? hx) wr HU.out);have hm3:=dH_ m l[i];generalize l[i]=c at *;rw[HMX.out]at hm2;have HM2:=hi_ hm2;generalize aA_ m c=hc at *;clear hx hm2 hil hcell;go_wp2_with fail
   refine Q3.out.mono ?_;rintro e3 w3 ⟨rfl,hb3⟩;have HU3:=bt_ HU hb3;have HU4:=bt_ HU1 hb3;go_wp2_with fail
   go_roundw
   case rel=>
    refine⟨i+1,?_,?_,by omega,HU3,HU4⟩
    ·rw[HM2.out]
     congr 1
     omega
    ·first|rfl|(congr 1)
   case measure=>
    show len-((i:Int)+1).toNat<len-((i:Int)).toNat;omega
end A
end
section
open Go.RowKit Go.Sort
namespace A
open H G
def aL_(x:G.Node)(av:Value):em_:=⟨true,x.kind,x.name,av,x.attrs,x.data,0,0,0,0,0⟩
structure Added(T T':am_)(x:G.Node)(s:Nat):Prop where
 bs:T'.bs=T.bs
 st:T'.st=T.st
 root:T'.root=T.root
 live:T'.live=T.live+1
 len:s<T'.slots.length
 more:T.slots.length<=T'.slots.length
 one:∀t,t<T'.slots.length->t≠s->t<T.slots.length
 at_:∃av,T'.sl s=aL_ x av
 old:∀t,t<T.slots.length->t≠s->T'.sl t=T.sl t
 was:s<T.slots.length->(T.sl s).used=false
 frees:T'.frees.Nodup/\∀t,t∈T'.frees->t∈T.frees/\t≠s
def iw_(m:aa_)(pos:Nat->Nat)(s:Nat)(i:Nat):Nat:=if i=m.length then s else pos i
theorem cX_(m:aa_)(pos:Nat->Nat)(s:Nat):iw_ m pos s m.length=s:=if_pos rfl
theorem b6_{m:aa_}{pos:Nat->Nat}{s i:Nat}(h:i<m.length):iw_ m pos s i=pos i:=if_neg (by omega)
theorem fV_{m:aa_}{x:G.Node}(i:Nat):has (m++[x]) i=if i=m.length then !x.gone else has m i:=by
 unfold has;rw[aK_]
 split<;>rfl
theorem prev_in{m:aa_}(W:WF m){i y:Nat}(h:ag_ m i=some y):y<m.length:=by
 unfold ag_ at h
 cases hp:(nd m i).parent with
 |none=>rw[hp]at h;cases h
 |some p=>
  rw[hp]at h;have h:ag_.prevAt2 (nd m p).kids ((nd m p).kids.idxOf i)=some y:=h;unfold ag_.prevAt2 at h
  split at h
  ·cases h
  ·exact(W.kid p y (List.mem_of_getElem? h)).1
theorem next_in{m:aa_}(W:WF m){i y:Nat}(h:ap_ m i=some y):y<m.length:=by
 unfold ap_ at h
 cases hp:(nd m i).parent with
 |none=>rw[hp]at h;cases h
 |some p=>
  rw[hp]at h;exact(W.kid p y (List.mem_of_getElem? h)).1
theorem fD_{m m':aa_}{i:Nat}(h1:(nd m' i).parent=(nd m i).parent)(h2:∀p,(nd m i).parent=some p->(nd m' p).kids=(nd m p).kids):ag_ m' i=ag_ m i:=by
 unfold ag_;rw[h1]
 cases hp:(nd m i).parent with
 |none=>rfl
 |some p=>dsimp only;rw[h2 p hp]
theorem fI_{m m':aa_}{i:Nat}(h1:(nd m' i).parent=(nd m i).parent)(h2:∀p,(nd m i).parent=some p->(nd m' p).kids=(nd m p).kids):ap_ m' i=ap_ m i:=by
 unfold ap_;rw[h1]
 cases hp:(nd m i).parent with
 |none=>rfl
 |some p=>dsimp only;rw[h2 p hp]
section
variable {T T':am_} {m:aa_} {pos:Nat->Nat}
theorem eD_(h1:T'.bs=T.bs)(h2:T'.st=T.st){s:Nat}{o:Option Nat}(ho:∀y,o=some y->y<m.length):hdO T' (iw_ m pos s) o=hdO T pos o:=by
 cases o with
 |none=>rfl
 |some y=>
  show handle T'.bs T'.st (iw_ m pos s y)=handle T.bs T.st (pos y);rw[h1,h2,b6_ (ho y rfl)]
theorem Fits.add(F:Fits T m pos){x:G.Node}(h1:x.parent=none)(h2:x.kids=[])(h3:2<=x.kind/\x.kind<=4)(hg:x.gone=false){s:Nat}(A:Added T T' x s):Fits T' (m++[x]) (iw_ m pos s):=by
 have W:=F.wf;have hH:∀i,has (m++[x]) i=true->i=m.length\/(i<m.length/\has m i=true):=by
  intro i hi;rw[fV_]at hi
  by_cases e:i=m.length
  ·exact Or.inl e
  ·rw[if_neg e]at hi
   exact Or.inr ⟨aR_ hi,hi⟩
 obtain⟨av,hav⟩:=A.at_;have hne:∀i,has m i=true->pos i≠s:=by
  intro i hi e;have h4:=F.lt i hi;have h5:=F.used i hi;rw[e]at h4 h5;rw[A.was h4]at h5
  cases h5
 have hold:∀i,has m i=true->T'.sl (iw_ m pos s i)=T.sl (pos i):=by
  intro i hi;rw[b6_ (aR_ hi)];exact A.old _ (F.lt i hi) (hne i hi)
 have hnew:T'.sl (iw_ m pos s m.length)=aL_ x av:=by rw[cX_];exact hav
 have hx:nd (m++[x]) m.length=x:=hB_;have key:∀{P:Nat->Prop},P m.length->(∀i,i<m.length->has m i=true->P i)->∀i,has (m++[x]) i=true->P i:=by
  intro P h4 h5 i hi
  rcases hH i hi with e|⟨e,e2⟩
  ·rw[e];exact h4
  ·exact h5 i e e2
 refine⟨W.make h1 h2 h3,?_,?_,?_,?_,?_,?_,?_,?_,?_,?_,?_,?_,?_,?_,?_,?_⟩
 ·exact key (by rw[cX_];exact A.len) (fun i hi h=>by rw[b6_ hi];exact Nat.lt_of_lt_of_le (F.lt i h) A.more)
 ·exact key (by rw[hnew];rfl) (fun i hi h=>by rw[hold i h];exact F.used i h)
 ·exact key (by rw[hnew,hx];rfl) (fun i hi h=>by rw[hold i h,bz_ hi];exact F.kind i h)
 ·exact key (by rw[hnew,hx];rfl) (fun i hi h=>by rw[hold i h,bz_ hi];exact F.name i h)
 ·exact key (by rw[hnew,hx];rfl) (fun i hi h=>by rw[hold i h,bz_ hi];exact F.attrs i h)
 ·exact key (by rw[hnew,hx];rfl) (fun i hi h=>by rw[hold i h,bz_ hi];exact F.data i h)
 ·refine key (by rw[hnew,hx,h1];rfl) (fun i hi h=>?_)
  rw[hold i h,bz_ hi,eD_ A.bs A.st (fun y hy=>(W.lt hy).2)];exact F.parent i h
 ·refine key (by rw[hnew,hx,h2];rfl) (fun i hi h=>?_)
  rw[hold i h,bz_ hi,eD_ A.bs A.st (fun y hy=>(W.kid i y (List.mem_of_mem_head? hy)).1)];exact F.first i h
 ·refine key (by rw[hnew,hx,h2];rfl) (fun i hi h=>?_)
  rw[hold i h,bz_ hi,eD_ A.bs A.st (fun y hy=>(W.kid i y (List.mem_of_mem_getLast? hy)).1)];exact F.last i h
 ·refine key (by rw[hnew];unfold ag_;rw[hx,h1];rfl) (fun i hi h=>?_)
  rw[hold i h,fD_ (m:=m) (by rw[bz_ hi]) (fun p hp=>by rw[bz_ (W.lt hp).2]),eD_ A.bs A.st (fun y hy=>prev_in W hy)];exact F.prev i h
 ·refine key (by rw[hnew];unfold ap_;rw[hx,h1];rfl) (fun i hi h=>?_)
  rw[hold i h,fI_ (m:=m) (by rw[bz_ hi]) (fun p hp=>by rw[bz_ (W.lt hp).2]),eD_ A.bs A.st (fun y hy=>next_in W hy)];exact F.next i h
 ·intro i j hi hj e
  rcases hH i hi with e1|⟨e1,e1'⟩
  ·rcases hH j hj with e2|⟨e2,e2'⟩
   ·rw[e1,e2]
   ·rw[e1,cX_,b6_ e2]at e
    exact absurd e.symm (hne j e2')
  ·rcases hH j hj with e2|⟨e2,e2'⟩
   ·rw[e2,cX_,b6_ e1]at e
    exact absurd e (hne i e1')
   ·rw[b6_ e1,b6_ e2]at e
    exact F.inj i j e1' e2' e
 ·intro t ht hu
  by_cases e:t=s
  ·exact⟨m.length,by rw[fV_,if_pos rfl,hg];rfl,by rw[cX_,e]⟩
  ·have h4:=A.one t ht e
   rw[A.old t h4 e]at hu;obtain⟨i,hi,hp⟩:=F.onto t h4 hu;exact⟨i,by rw[fV_,if_neg (by have:=aR_ hi;omega)];exact hi,by rw[b6_ (aR_ hi)];exact hp⟩
 ·refine⟨A.frees.1,fun t ht=>?_⟩
  obtain⟨h4,h5⟩:=A.frees.2 t ht;obtain⟨h6,h7⟩:=F.frees.2 t h4;exact⟨Nat.lt_of_lt_of_le h6 A.more,by rw[A.old t h6 h5];exact h7⟩
 ·rw[A.live,F.live]
  have hl:(m++[x]).length=m.length+1:=by simp
  rw[hl,List.range_succ,List.filter_append,List.length_append];have e1:(List.range m.length).filter (has (m++[x]))=(List.range m.length).filter (has m):=by
   refine List.filter_congr fun i hi=>?_;rw[fV_,if_neg (by have:=List.mem_range.1 hi;omega)]
  have e2:has (m++[x]) m.length=true:=by rw[fV_,if_pos rfl,hg];rfl
  rw[e1,List.filter_cons_of_pos (by exact e2)];simp
 ·rw[A.root,F.root]
  unfold hd;rw[A.bs,A.st,b6_ W.doc.1]
structure Setted(T T':am_)(m:aa_)(pos:Nat->Nat)(h:Nat)(f:G.Node->G.Node):Prop where
 bs:T'.bs=T.bs
 st:T'.st=T.st
 len:T'.slots.length=T.slots.length
 frees:T'.frees=T.frees
 live:T'.live=T.live
 root:T'.root=T.root
 used:∀s,(T'.sl s).used=(T.sl s).used
 same:∀i,has m i=true->(T'.sl (pos i)).kind=(T.sl (pos i)).kind/\(T'.sl (pos i)).name=(T.sl (pos i)).name/\(T'.sl (pos i)).parent=(T.sl (pos i)).parent/\(T'.sl (pos i)).first=(T.sl (pos i)).first/\(T'.sl (pos i)).last=(T.sl (pos i)).last/\(T'.sl (pos i)).prev=(T.sl (pos i)).prev/\(T'.sl (pos i)).next=(T.sl (pos i)).next
 al:∀i,has m i=true->(T'.sl (pos i)).al=if i=h then(f (nd m h)).attrs else(T.sl (pos i)).al
 data:∀i,has m i=true->(T'.sl (pos i)).data=if i=h then(f (nd m h)).data else(T.sl (pos i)).data
theorem Fits.sett(F:Fits T m pos){h:Nat}(hh:has m h=true){f:G.Node->G.Node}(hf:∀x,(f x).kind=x.kind/\(f x).name=x.name/\(f x).parent=x.parent/\(f x).kids=x.kids/\(f x).gone=x.gone)(S:Setted T T' m pos h f):Fits T' (upd m h f) pos:=by
 have W:=F.wf;have hhl:=aR_ hh;have hnd:∀i,nd (upd m h f) i=if i=h then f (nd m i)else nd m i:=fun i=>cC_ hhl i
 have hs:∀i,(nd (upd m h f) i).kind=(nd m i).kind/\(nd (upd m h f) i).name=(nd m i).name/\(nd (upd m h f) i).parent=(nd m i).parent/\(nd (upd m h f) i).kids=(nd m i).kids/\(nd (upd m h f) i).gone=(nd m i).gone:=by
  intro i;rw[hnd]
  split
  ·exact hf _
  ·exact⟨rfl,rfl,rfl,rfl,rfl⟩
 have hH:∀i,has (upd m h f) i=has m i:=fun i=>by unfold has;rw[(hs i).2.2.2.2]
 have e0:∀o,hdO T' pos o=hdO T pos o:=d0_ S.bs S.st;have hl:=cM_ m h f;refine⟨W.same hl (fun i=>⟨(hs i).1,(hs i).2.2.1,(hs i).2.2.2.1,(hs i).2.2.2.2⟩),?_,?_,?_,?_,?_,?_,?_,?_,?_,?_,?_,?_,?_,?_,?_,?_⟩
 ·intro i hi;rw[hH]at hi;rw[S.len];exact F.lt i hi
 ·intro i hi;rw[hH]at hi;rw[S.used];exact F.used i hi
 ·intro i hi;rw[hH]at hi;rw[(S.same i hi).1,(hs i).1];exact F.kind i hi
 ·intro i hi;rw[hH]at hi;rw[(S.same i hi).2.1,(hs i).2.1];exact F.name i hi
 ·intro i hi
  rw[hH]at hi;rw[S.al i hi,hnd]
  by_cases e:i=h
  ·rw[if_pos e,if_pos e,e]
  ·rw[if_neg e,if_neg e];exact F.attrs i hi
 ·intro i hi
  rw[hH]at hi;rw[S.data i hi,hnd]
  by_cases e:i=h
  ·rw[if_pos e,if_pos e,e]
  ·rw[if_neg e,if_neg e];exact F.data i hi
 ·intro i hi;rw[hH]at hi;rw[(S.same i hi).2.2.1,(hs i).2.2.1,e0];exact F.parent i hi
 ·intro i hi;rw[hH]at hi;rw[(S.same i hi).2.2.2.1,(hs i).2.2.2.1,e0];exact F.first i hi
 ·intro i hi;rw[hH]at hi;rw[(S.same i hi).2.2.2.2.1,(hs i).2.2.2.1,e0];exact F.last i hi
 ·intro i hi;rw[hH]at hi;rw[(S.same i hi).2.2.2.2.2.1,fD_ (m:=m) (hs i).2.2.1 (fun p _=>(hs p).2.2.2.1),e0];exact F.prev i hi
 ·intro i hi;rw[hH]at hi;rw[(S.same i hi).2.2.2.2.2.2,fI_ (m:=m) (hs i).2.2.1 (fun p _=>(hs p).2.2.2.1),e0];exact F.next i hi
 ·intro i j hi hj e;rw[hH]at hi hj;exact F.inj i j hi hj e
 ·intro s hs2 hu
  rw[S.len]at hs2;rw[S.used]at hu;obtain⟨i,hi,hp⟩:=F.onto s hs2 hu;exact⟨i,by rw[hH];exact hi,hp⟩
 ·rw[S.frees]
  refine⟨F.frees.1,fun t ht=>?_⟩;rw[S.len,S.used];exact F.frees.2 t ht
 ·rw[S.live,F.live,hl]
  congr 2
  exact List.filter_congr fun i _=>(hH i).symm
 ·rw[S.root,F.root]
  unfold hd;rw[S.bs,S.st]
structure i1_(T T':am_)(l:List Nat)(pos:Nat->Nat):Prop where
 bs:T'.bs=T.bs
 st:T'.st=T.st
 len:T'.slots.length=T.slots.length
 live:T'.live=T.live-(l.length:Nat)
 root:T'.root=T.root
 frees:T'.frees=T.frees++l.map pos
 old:∀s,s<T.slots.length->(∀i,i∈l->pos i≠s)->T'.sl s=T.sl s
 gone:∀i,i∈l->(T'.sl (pos i)).used=false
theorem mc_{α:Type}[DecidableEq α]{p q:α->Bool}:∀{l k:List α},l.Nodup->k.Nodup->(∀x,x∈k->x∈l/\p x=true)->(∀x,x∈l->q x=(p x && !k.contains x))->(l.filter q).length+k.length=(l.filter p).length:=by
 intro l k hl hk h1 h2;have e1:(l.filter p).Perm (l.filter q++k):=by
  refine(List.perm_ext_iff_of_nodup (hl.filter _) ?_).2 (fun x=>?_)
  ·rw[List.nodup_append]
   refine⟨hl.filter _,hk,fun a ha b hb e=>?_⟩;subst e;rw[List.mem_filter]at ha;rw[h2 a ha.1]at ha;have:k.contains a=true:=List.contains_iff_mem.2 hb;rw[this]at ha;simp at ha
  ·rw[List.mem_append,List.mem_filter,List.mem_filter]
   constructor
   ·rintro⟨ha,hb⟩
    by_cases e:x∈k
    ·exact Or.inr e
    ·refine Or.inl ⟨ha,?_⟩
     rw[h2 x ha,hb];simpa using e
   ·rintro(⟨ha,hb⟩|ha)
    ·rw[h2 x ha]at hb
     simp at hb;exact⟨ha,hb.1⟩
    ·exact h1 x ha
 have:=e1.length_eq;rw[List.length_append]at this;omega
theorem Fits.drop(F:Fits T m pos){h:Nat}(hh:has m h=true)(hr:(nd m h).parent=none)(h0:h≠0)(hw:(walk m h).Nodup)(hwh:∀i,i∈walk m h->has m i=true)(D:i1_ T T' (walk m h) pos):Fits T' (G.drop m h) pos:=by
 have W:=F.wf;have hl:=c2_ m h;have hnd:∀i,i<m.length->nd (G.drop m h) i={ nd m i with gone:=(nd m i).gone || (walk m h).contains i }:=fun i hi=>fK_ i hi;have hH:∀i,has (G.drop m h) i=(has m i && !(walk m h).contains i):=by
  intro i
  rcases Nat.lt_or_ge i m.length with hi|hi
  ·unfold has
   rw[hnd i hi];show(!((nd m i).gone || _))=_;rw[Bool.not_or]
  ·unfold has
   rw[dj_ hi,dj_ (by rw[hl];exact hi)];rfl
 have hH2:∀{i},has (G.drop m h) i=true->has m i=true/\i∉walk m h:=by
  intro i hi;rw[hH,Bool.and_eq_true]at hi;exact⟨hi.1,by simpa using hi.2⟩
 have hold:∀{i},has (G.drop m h) i=true->T'.sl (pos i)=T.sl (pos i):=by
  intro i hi;obtain⟨h1,h2⟩:=hH2 hi;exact D.old _ (F.lt i h1) (fun j hj e=>h2 (by rw[<-F.inj j i (hwh j hj) h1 e];exact hj))
 have e0:∀o,hdO T' pos o=hdO T pos o:=d0_ D.bs D.st;have hsh:∀i,(nd (G.drop m h) i).kind=(nd m i).kind/\(nd (G.drop m h) i).parent=(nd m i).parent/\(nd (G.drop m h) i).kids=(nd m i).kids/\(nd (G.drop m h) i).name=(nd m i).name/\(nd (G.drop m h) i).attrs=(nd m i).attrs/\(nd (G.drop m h) i).data=(nd m i).data:=by
  intro i
  rcases Nat.lt_or_ge i m.length with hi|hi
  ·rw[hnd i hi];exact⟨rfl,rfl,rfl,rfl,rfl,rfl⟩
  ·rw[dj_ hi,dj_ (by rw[hl];exact hi)];exact⟨rfl,rfl,rfl,rfl,rfl,rfl⟩
 refine⟨W.drop hr h0,?_,?_,?_,?_,?_,?_,?_,?_,?_,?_,?_,?_,?_,?_,?_,?_⟩
 ·intro i hi;rw[D.len];exact F.lt i (hH2 hi).1
 ·intro i hi;rw[hold hi];exact F.used i (hH2 hi).1
 ·intro i hi;rw[hold hi,(hsh i).1];exact F.kind i (hH2 hi).1
 ·intro i hi;rw[hold hi,(hsh i).2.2.2.1];exact F.name i (hH2 hi).1
 ·intro i hi;rw[hold hi,(hsh i).2.2.2.2.1];exact F.attrs i (hH2 hi).1
 ·intro i hi;rw[hold hi,(hsh i).2.2.2.2.2];exact F.data i (hH2 hi).1
 ·intro i hi;rw[hold hi,(hsh i).2.1,e0];exact F.parent i (hH2 hi).1
 ·intro i hi;rw[hold hi,(hsh i).2.2.1,e0];exact F.first i (hH2 hi).1
 ·intro i hi;rw[hold hi,(hsh i).2.2.1,e0];exact F.last i (hH2 hi).1
 ·intro i hi;rw[hold hi,fD_ (m:=m) (hsh i).2.1 (fun p _=>(hsh p).2.2.1),e0];exact F.prev i (hH2 hi).1
 ·intro i hi;rw[hold hi,fI_ (m:=m) (hsh i).2.1 (fun p _=>(hsh p).2.2.1),e0];exact F.next i (hH2 hi).1
 ·intro i j hi hj e;exact F.inj i j (hH2 hi).1 (hH2 hj).1 e
 ·intro s hs hu
  rw[D.len]at hs;have hn:∀i,i∈walk m h->pos i≠s:=fun i hi e=>by
   have:=D.gone i hi;rw[e,hu]at this
   cases this
  rw[D.old s hs hn]at hu;obtain⟨i,hi,hp⟩:=F.onto s hs hu;refine⟨i,?_,hp⟩;rw[hH,hi,Bool.true_and];have:i∉walk m h:=fun hm=>hn i hm hp;simpa using this
 ·rw[D.frees]
  refine⟨?_,fun t ht=>?_⟩
  ·rw[List.nodup_append]
   refine⟨F.frees.1,?_,fun a ha b hb e=>?_⟩
   ·have key:∀l:List Nat,l.Nodup->(∀i,i∈l->has m i=true)->(l.map pos).Nodup:=by
     intro l
     induction l with
     |nil=>intro _ _;exact List.nodup_nil
     |cons a t ih=>
      intro hn ha;rw[List.map_cons,List.nodup_cons];rw[List.nodup_cons]at hn;refine⟨fun hm=>?_,ih hn.2 (fun i hi=>ha i (by simp[hi]))⟩;obtain⟨b,hb,e⟩:=List.mem_map.1 hm;have:=F.inj b a (ha b (by simp[hb])) (ha a (by simp)) e;rw[this]at hb;exact hn.1 hb
    exact key _ hw hwh
   ·obtain⟨i,hi,rfl⟩:=List.mem_map.1 hb
    subst e;have:=(F.frees.2 _ ha).2;rw[F.used i (hwh i hi)]at this
    cases this
  ·rcases List.mem_append.1 ht with h1|h1
   ·obtain⟨h2,h3⟩:=F.frees.2 t h1
    rw[D.len];refine⟨h2,?_⟩;rw[D.old t h2 (fun i hi e=>by rw[<-e,F.used i (hwh i hi)]at h3;cases h3)];exact h3
   ·obtain⟨i,hi,rfl⟩:=List.mem_map.1 h1
    rw[D.len];exact⟨F.lt i (hwh i hi),D.gone i hi⟩
 ·rw[D.live,F.live,hl]
  have:=mc_ (p:=has m) (q:=has (G.drop m h)) (l:=List.range m.length) (k:=walk m h) List.nodup_range hw (fun x hx=>⟨List.mem_range.2 (aR_ (hwh x hx)),hwh x hx⟩) (fun x _=>hH x);omega
 ·rw[D.root,F.root]
  unfold hd;rw[D.bs,D.st]
theorem WF.walk_has(W:WF m)(h:Nat):has m h=true->∀i,i∈walk m h->has m i=true:=by
 refine W.down_ind (P:=fun h=>has m h=true->∀i,i∈walk m h->has m i=true) (fun h ih hh i hi=>?_) h;rw[W.walk_eq]at hi
 rcases List.mem_cons.1 hi with e|hi
 ·rw[e];exact hh
 ·obtain⟨k,hk,hki⟩:=List.mem_flatMap.1 hi
  refine ih k hk ?_ i hki;have:=W.gone k h (W.kid h k hk).2;unfold has at hh ⊢;rw[this];exact hh
theorem WF.walk_top(W:WF m){h i:Nat}(hi:i∈walk m h):contains m h i=true:=by
 rcases Nat.lt_or_ge i m.length with h1|h1
 ·exact(W.mem_walk h h1).1 hi
 ·have key:∀h,i∈walk m h->i=h\/i<m.length:=by
   intro h;refine W.down_ind (P:=fun h=>i∈walk m h->i=h\/i<m.length) (fun h ih hm=>?_) h;rw[W.walk_eq]at hm
   rcases List.mem_cons.1 hm with e|hm
   ·exact Or.inl e
   ·obtain⟨k,hk,hki⟩:=List.mem_flatMap.1 hm
    rcases ih k hk hki with e|e
    ·rw[e];exact Or.inr (W.kid h k hk).1
    ·exact Or.inr e
  rcases key h hi with e|e
  ·rw[e];exact W.contains_self h
  ·omega
theorem c9_(W:WF m){a i:Nat}:contains m a i=true->depth m a<=depth m i:=by
 refine W.up_ind (P:=fun i=>contains m a i=true->depth m a<=depth m i) (fun i hp hc=>?_) (fun i p hp ih hc=>?_) i
 ·rw[W.contains_root hp]at hc
  rw[beq_iff_eq.1 hc];exact nl_
 ·rw[W.contains_step hp]at hc
  rcases Bool.or_eq_true_iff.1 hc with e|e
  ·rw[beq_iff_eq.1 e];exact nl_
  ·have:=ih e
   rw[W.depth_step hp];omega
theorem contains_one(W:WF m){p a b i:Nat}(ha:(nd m a).parent=some p)(hb:(nd m b).parent=some p):contains m a i=true->contains m b i=true->a=b:=by
 refine W.up_ind (P:=fun i=>contains m a i=true->contains m b i=true->a=b) (fun i hp h1 h2=>?_) (fun i q hp ih h1 h2=>?_) i
 ·rw[W.contains_root hp]at h1 h2
  rw[beq_iff_eq.1 h1,beq_iff_eq.1 h2]
 ·rw[W.contains_step hp]at h1 h2
  have hda:=W.depth_step ha;have hdb:=W.depth_step hb;have hdi:=W.depth_step hp
  rcases Bool.or_eq_true_iff.1 h1 with e1|e1<;>rcases Bool.or_eq_true_iff.1 h2 with e2|e2
  ·rw[beq_iff_eq.1 e1,beq_iff_eq.1 e2]
  ·have e:=beq_iff_eq.1 e1
   rw[e,hp]at ha;injection ha with ha
   have:=c9_ W e2;rw[ha]at this;omega
  ·have e:=beq_iff_eq.1 e2
   rw[e,hp]at hb;injection hb with hb
   have:=c9_ W e1;rw[hb]at this;omega
  ·exact ih e1 e2
theorem gE_{f:Nat->List Nat}:∀{l:List Nat},l.Nodup->(∀x,x∈l->(f x).Nodup)->(∀x y i,x∈l->y∈l->i∈f x->i∈f y->x=y)->(l.flatMap f).Nodup
 |[],_,_,_=>by simp
 |a :: t,hl,h1,h2=>by
  rw[List.nodup_cons]at hl;rw[List.flatMap_cons,List.nodup_append];refine⟨h1 a (by simp),gE_ hl.2 (fun x hx=>h1 x (by simp[hx])) (fun x y i hx hy=>h2 x y i (by simp[hx]) (by simp[hy])),fun i hi j hj e=>?_⟩;subst e;obtain⟨y,hy,hiy⟩:=List.mem_flatMap.1 hj;have:=h2 a y i (by simp) (by simp[hy]) hi hiy;subst this;exact hl.1 hy
theorem WF.walk_nodup(W:WF m)(h:Nat):(walk m h).Nodup:=by
 refine W.down_ind (P:=fun h=>(walk m h).Nodup) (fun h ih=>?_) h;rw[W.walk_eq,List.nodup_cons];refine⟨fun hm=>?_,gE_ (W.nodup h) ih (fun x y i hx hy hi hj=>contains_one W (W.kid h x hx).2 (W.kid h y hy).2 (WF.walk_top W hi) (WF.walk_top W hj))⟩;obtain⟨k,hk,hki⟩:=List.mem_flatMap.1 hm;have h1:=c9_ W (WF.walk_top W hki);have h2:=W.depth_step (W.kid h k hk).2;omega
end
end A
end
section
open Go.RowKit Go.Sort
namespace R
open H G A
theorem lu_(M:aF_)(i p:Nat)(w:World)(h:ab_ w M)(W:WF M.m)(hi:i<M.nodes.length)(hp:(nd M.m i).parent=some p):Calls Tryz.prog 123 #[.pointer (some ⟨M.mb,0,none⟩),.int .i64 i] w fun e w'=>e=.returned (.int .i64 ((nd M.m p).kids.idxOf i:Nat))/\w=w':=by
 obtain⟨c0,l0,l1⟩:=h.top;have k4:=(h.cell hi).2.2.2.2.1;rw[hp]at k4;have k4':w.cell? ⟨M.g,i*7+4,none⟩=some (.int .i64 p):=k4;have n1:(i:Int)<(M.nodes.length:Int):=by omega
 have hpl:p<M.nodes.length:=by rw[<-M.m_len];exact(W.lt hp).2
 have n2:(p:Int)<(M.nodes.length:Int):=by omega
 have k5:=(h.cell hpl).2.2.2.2.2.1;obtain⟨ao,cap,hv,hc⟩:=b4_.form (h.kidsRow hpl);rw[hv]at k5;have hmem:=(W.par i p hp).2;have hnd:=W.nodup p;have hfew:=h.few;have hlt:=List.idxOf_lt_length_of_mem hmem;have hat:=dr_ hmem;generalize hl:(nd M.m p).kids=l at *;have HIx:Hid (∀n,l[n]?=some i->l.idxOf i=n):=hi_ (fun n hn=>dn_ hnd hn);have HMem:=hi_ hmem;have HNd:=hi_ (fun n (hn:l[n]?=some i)=>dn_ hnd hn);generalize hix:l.idxOf i=ix at *;have HAt:=hi_ hat;have HC:=hi_ hc;have hln:l.length<=1000000:=by
  have h1:l.length<=(List.range M.nodes.length).length:=List.Nodup.length_le_of_subset hnd (fun x hx=>List.mem_range.2 (by rw[<-M.m_len];exact(W.kid p x (by rw[hl];exact hx)).1));rw[List.length_range]at h1;omega
 clear k4 h hp hmem hl hix hv hat hc hnd hi hpl
 go_enter Tryz.func123,Tryz.ntmps123
 go_wp2_with fail
 go_loopw [6] (fun v6 wr=>∃n:Nat,v6=.int .i64 (n:Nat)/\wr=w/\n<=ix) (fun v6 _=>l.length-(aN_ v6).toNat)
 case atStart=>exact⟨0,rfl,rfl,Nat.zero_le _⟩
 case round=>
  obtain⟨n,rfl,rfl,hn⟩:=hrel;have hnl:n<l.length:=by omega
  have hx:l[n]?=some l[n]:=List.getElem?_eq_getElem hnl;obtain⟨g,rfl,hg,hcell⟩:=HC.out _ _ hx;have HX:=hi_ hx;generalize l[n]=x at *;have n3:(n:Int)<(l.length:Int):=by omega
  by_cases e:x=i
  ·have z1:((x:Int)==(i:Int))=true:=by rw[e];exact beq_self_eq_true _
   have z2:(x:Int)=(i:Int):=by omega
   have HF:=hi_ (show n=ix by have:=HIx.out n (by rw[HX.out,e]);omega);clear e hx;go_wp2_with fail
   go_ret
   exact⟨ay_ (congrArg (fun n:Nat=>(n:Int)) HF.out),rfl⟩
  ·have z1:((x:Int)==(i:Int))=false:=bn_ (by omega)
   have z2:¬(x:Int)=(i:Int):=by omega
   have hne:n≠ix:=fun e2=>e (by have h1:=HX.out;rw[e2,HAt.out]at h1;injection h1 with h1;exact h1.symm);have HL:=hi_ (show n+1<=ix by omega);have wn:IntKind.i64.wrap ((n:Int)+1)=(n:Int)+1:=IntWalk.i64_in _ (by omega);clear e hx hne;go_wp2_with fail
   go_roundw
   case rel=>exact⟨n+1,by first|rfl|(congr 1),trivial,HL.out⟩
   case measure=>
    show l.length-((n:Int)+1).toNat<l.length-((n:Nat):Int).toNat;omega
end R
end
section
open Go.RowKit Go.Sort
namespace A
open H G
theorem b8_{w:World}{B B':Nat}{e:TypeId}{size n:Nat}{v:Value}{xs:List Value}(h:w.ownsRow B e size v n xs)(hB:B'<=B):w.ownsRow B' e size v n xs:=by
 refine⟨h.1,?_⟩
 rcases h.2 with hn|⟨g,cap,cur,hv,hb,rest⟩
 ·exact Or.inl hn
 ·exact Or.inr ⟨g,cap,cur,hv,Nat.le_trans hB hb,rest⟩
theorem dw_{w:World}{B:Nat}{v:Value}{l:List (List UInt8×List UInt8)}(h:ac_ ai_ B 142 2 w v l):aw_ w v l:=b8_ h (Nat.zero_le _)
theorem ak_{w:World}{B:Nat}{e t:TypeId}{size n g:Nat}{v:Value}{xs:List Value}{cs:Array Value}(h:w.ownsRow B e size v n xs)(hb:Blk g cs t w)(hne:e≠t):v.ownBlock≠some g:=by
 intro hg;obtain⟨c,hc⟩:=aV_ h hg;exact hne (bM_ hc hb)
theorem mQ_{w:World}{B:Nat}{e:TypeId}{size n g:Nat}{v:Value}{xs:List Value}(h:w.ownsRow B e size v n xs)(hn:v.ownBlock≠some g)(b0 b1 b2 b3 b4 b5 b6 b7 b8:Value):(set9 w g b0 b1 b2 b3 b4 b5 b6 b7 b8).ownsRow B e size v n xs:=
 au_ (au_ (au_ (au_ (au_ (au_ (au_ (au_ (au_ h hn 0 b0) hn 1 b1) hn 2 b2) hn 3 b3) hn 4 b4) hn 5 b5) hn 6 b6) hn 7 b7) hn 8 b8
def eo_:Array Value:=#[.int .i64 0,.string ⟨#[]⟩,.slice none 0 0,.string ⟨#[]⟩,.int .i64 0,.int .i64 0,.int .i64 0,.int .i64 0,.int .i64 0]
theorem na_(T:am_)(z:Int)(w:World)(hT:al_ w T)(hz:-9223372036854775808<=z)(hz2:z<=9223372036854775807)(hp:T.ptr 0 z=none) :
  Calls Tryz.prog 100 #[.pointer (some ⟨T.tb,0,none⟩),.int .i64 z] w fun e w'=>e=.returned (.tuple #[.agg eo_,.bool false])/\Below w.heap.size w w':=by
 have hB1:=(Below.refl w.heap.size w).alloc (nl_) (.cells #[.int .i64 0,.string ⟨#[]⟩,.slice none 0 0,.string ⟨#[]⟩,.int .i64 0,.int .i64 0,.int .i64 0,.int .i64 0,.int .i64 0] 126);have Q1:=hi_ (fun W (hW:Below w.heap.size w W)=>find T z W (hT.below hW) hz hz2);rw[hp]at Q1;unfold eo_;clear hT hp
 go_enter Tryz.func100,Tryz.ntmps100
 go_wp2_with fail
 refine(Q1.out _ hB1).mono ?_;rintro e w2 ⟨rfl,hb2⟩;have HB2:=hi_ (hB1.trans (hb2.mono hB1.size));have hb0:Blk w.heap.size #[.int .i64 0,.string ⟨#[]⟩,.slice none 0 0,.string ⟨#[]⟩,.int .i64 0,.int .i64 0,.int .i64 0,.int .i64 0,.int .i64 0] 126 w2:=(Blk.new w _ _).below hb2;have HB0:=hi_ hb0;have hlt2:w.heap.size<w2.heap.size:=hb0.lt;obtain⟨⟨k0,k1,k2,k3,k4,k5,k6,k7,k8⟩,⟨f0,f1,f2,f3,f4,f5,f6,f7,f8⟩⟩:=bZ_ hb0;clear hb2 hb0;go_wp2_with fail
 have h9:=(Blk.set9 HB0.out (.int .i64 0) (.string ⟨#[]⟩) (.slice none 0 0) (.string ⟨#[]⟩) (.int .i64 0) (.int .i64 0) (.int .i64 0) (.int .i64 0) (.int .i64 0)).alloc (.cells #[.int .i64 0,.string ⟨#[]⟩,.slice none 0 0,.string ⟨#[]⟩,.int .i64 0,.int .i64 0,.int .i64 0,.int .i64 0,.int .i64 0] 126);have hb9:=d2_ HB2.out (nl_) (.int .i64 0) (.string ⟨#[]⟩) (.slice none 0 0) (.string ⟨#[]⟩) (.int .i64 0) (.int .i64 0) (.int .i64 0) (.int .i64 0) (.int .i64 0);have hb9:=hb9.alloc hb9.size (.cells #[.int .i64 0,.string ⟨#[]⟩,.slice none 0 0,.string ⟨#[]⟩,.int .i64 0,.int .i64 0,.int .i64 0,.int .i64 0,.int .i64 0] 126);obtain⟨⟨l0,l1,l2,l3,l4,l5,l6,l7,l8⟩,_⟩:=bZ_ h9
 change bodyPost _ _ _ _ _ (World.alloc (set9 w2 w.heap.size (.int .i64 0) (.string ⟨#[]⟩) (.slice none 0 0) (.string ⟨#[]⟩) (.int .i64 0) (.int .i64 0) (.int .i64 0) (.int .i64 0) (.int .i64 0)) (.cells #[.int .i64 0,.string ⟨#[]⟩,.slice none 0 0,.string ⟨#[]⟩,.int .i64 0,.int .i64 0,.int .i64 0,.int .i64 0,.int .i64 0] 126));generalize World.alloc _ _=W9 at *;refine bodyPost_ret (v:=.tuple #[.agg #[.int .i64 0,.string ⟨#[]⟩,.slice none 0 0,.string ⟨#[]⟩,.int .i64 0,.int .i64 0,.int .i64 0,.int .i64 0,.int .i64 0],.bool false]) (by simp[results,Tryz.results100,go_sem,l0,l1,l2,l3,l4,l5,l6,l7,l8]) rfl ⟨rfl,hb9⟩
theorem node_(T:am_)(m:aa_)(pos:Nat->Nat)(i:Nat)(w:World)(hT:aj_ w T m pos)(hi:has m i=true)(hl:(nd m i).attrs.length<=100000) :
  Calls Tryz.prog 50 #[.pointer (some ⟨T.tb,0,none⟩),.int .i64 (hd T pos i)] w fun e w'=>∃v,e=.returned (.tuple #[eb_ (T.sl (pos i)) v,.bool true])/\Below w.heap.size w w'/\ac_ ai_ w.heap.size 142 2 w' v (nd m i).attrs:=by
 have hB1:=(Below.refl w.heap.size w).alloc (nl_) (.cells #[.int .i64 0,.string ⟨#[]⟩,.slice none 0 0,.string ⟨#[]⟩,.int .i64 0,.int .i64 0,.int .i64 0,.int .i64 0,.int .i64 0] 126);have Q1:=hi_ (fun W (hW:Below w.heap.size w W)=>get_ T m pos i W (hT.below hW) hi);have HA:=hi_ (fun W (hW:Below w.heap.size w W)=>(hT.below hW).attrs hi);rw[hT.fits.attrs i hi]at HA;obtain⟨ao,acap,hat⟩:=(hT.attrs hi).slice;unfold eb_ at Q1 ⊢;generalize T.sl (pos i)=r at *;rw[hat]at Q1 HA;generalize hd T pos i=z at *;generalize r.al.length=an at *;generalize (nd m i).attrs=al at *;clear hT hat
 go_enter Tryz.func50,Tryz.ntmps50
 go_wp2_with fail
 refine(Q1.out _ hB1).mono ?_;rintro e w2 ⟨rfl,hb2⟩;have HB2:=hi_ (hB1.trans (hb2.mono hB1.size));have HB0:=hi_ (show Blk w.heap.size #[.int .i64 0,.string ⟨#[]⟩,.slice none 0 0,.string ⟨#[]⟩,.int .i64 0,.int .i64 0,.int .i64 0,.int .i64 0,.int .i64 0] 126 w2 from (Blk.new w _ _).below hb2);clear hb2 Q1;go_wp2_with fail
 have HB3:=hi_ (HB2.out.alloc HB2.out.size (.cells #[.int .i64 r.kind,.string ⟨r.name.toArray⟩,.slice ao an acap,.string ⟨r.data.toArray⟩,.int .i64 r.parent,.int .i64 r.first,.int .i64 r.last,.int .i64 r.prev,.int .i64 r.next] 126));have QC:=hi_ (dz_ _ al _ (HA.out _ HB3.out) hl);refine QC.out.mono ?_;rintro e w3 ⟨v,rfl,hr3,hb3⟩;obtain⟨bo,bcap,hv⟩:=aw_.slice (dw_ hr3);subst hv;have HB4:=bt_ HB3 hb3;have HR4:=hi_ (b8_ hr3 HB3.out.size);have HX0:=hi_ (show Blk w.heap.size #[.int .i64 0,.string ⟨#[]⟩,.slice none 0 0,.string ⟨#[]⟩,.int .i64 0,.int .i64 0,.int .i64 0,.int .i64 0,.int .i64 0] 126 w3 from (HB0.out.alloc _).below hb3)
 have HX1:=hi_ (show Blk w2.heap.size #[.int .i64 r.kind,.string ⟨r.name.toArray⟩,.slice ao an acap,.string ⟨r.data.toArray⟩,.int .i64 r.parent,.int .i64 r.first,.int .i64 r.last,.int .i64 r.prev,.int .i64 r.next] 126 w3 from (Blk.new w2 _ _).below hb3);obtain⟨⟨k0,k1,k2,k3,k4,k5,k6,k7,k8⟩,⟨f0,f1,f2,f3,f4,f5,f6,f7,f8⟩⟩:=bZ_ HX0.out;obtain⟨⟨c0,c1,c2,c3,c4,c5,c6,c7,c8⟩,⟨g0,g1,g2,g3,g4,g5,g6,g7,g8⟩⟩:=bZ_ HX1.out;have hne:w.heap.size<w2.heap.size:=HB0.out.lt;generalize w2.heap.size=b6 at *;generalize hb4:w.heap.size=b4 at *;have HE4:=hi_ hb4;clear hb3 hr3 QC HB3 HB0 hb4;go_wp2_with fail
 have hn4:=ak_ HR4.out HX0.out (by decide);have hn6:=ak_ HR4.out HX1.out (by decide);have hR5:=mQ_ (au_ HR4.out hn6 2 (.slice bo al.length bcap)) hn4 (.int .i64 r.kind) (.string ⟨r.name.toArray⟩) (.slice bo al.length bcap) (.string ⟨r.data.toArray⟩) (.int .i64 r.parent) (.int .i64 r.first) (.int .i64 r.last) (.int .i64 r.prev) (.int .i64 r.next);have hb5:=d2_ (a0_ (o:=2) (v:=.slice bo al.length bcap) HB4.out (Nat.le_of_lt hne)) (nl_) (.int .i64 r.kind) (.string ⟨r.name.toArray⟩) (.slice bo al.length bcap) (.string ⟨r.data.toArray⟩) (.int .i64 r.parent) (.int .i64 r.first) (.int .i64 r.last) (.int .i64 r.prev) (.int .i64 r.next)
 have h9:=Blk.set9 (HX0.out.far (Nat.ne_of_lt hne) 2 (.slice bo al.length bcap)) (.int .i64 r.kind) (.string ⟨r.name.toArray⟩) (.slice bo al.length bcap) (.string ⟨r.data.toArray⟩) (.int .i64 r.parent) (.int .i64 r.first) (.int .i64 r.last) (.int .i64 r.prev) (.int .i64 r.next);obtain⟨⟨l0,l1,l2,l3,l4,l5,l6,l7,l8⟩,_⟩:=bZ_ h9;change bodyPost _ _ _ _ _ (set9 (w3.setCell ⟨b6,2,none⟩ (.slice bo al.length bcap)) b4 (.int .i64 r.kind) (.string ⟨r.name.toArray⟩) (.slice bo al.length bcap) (.string ⟨r.data.toArray⟩) (.int .i64 r.parent) (.int .i64 r.first) (.int .i64 r.last) (.int .i64 r.prev) (.int .i64 r.next));generalize set9 _ _ _ _ _ _ _ _ _ _ _=W9 at *;rw[<-HE4.out]at hR5 hb5
 refine bodyPost_ret (v:=.tuple #[.agg #[.int .i64 r.kind,.string ⟨r.name.toArray⟩,.slice bo al.length bcap,.string ⟨r.data.toArray⟩,.int .i64 r.parent,.int .i64 r.first,.int .i64 r.last,.int .i64 r.prev,.int .i64 r.next],.bool true]) (by simp[results,Tryz.results50,go_sem,l0,l1,l2,l3,l4,l5,l6,l7,l8]) rfl ⟨_,rfl,hb5,hR5⟩
theorem lg_(T:am_)(z:Int)(w:World)(hT:al_ w T)(hz:-9223372036854775808<=z)(hz2:z<=9223372036854775807)(hp:T.ptr 0 z=none) :
  Calls Tryz.prog 50 #[.pointer (some ⟨T.tb,0,none⟩),.int .i64 z] w fun e w'=>e=.returned (.tuple #[.agg eo_,.bool false])/\Below w.heap.size w w':=by
 have hB1:=(Below.refl w.heap.size w).alloc (nl_) (.cells #[.int .i64 0,.string ⟨#[]⟩,.slice none 0 0,.string ⟨#[]⟩,.int .i64 0,.int .i64 0,.int .i64 0,.int .i64 0,.int .i64 0] 126);have Q1:=hi_ (fun W (hW:Below w.heap.size w W)=>na_ T z W (hT.below hW) hz hz2 hp);unfold eo_ at *;clear hT hp
 go_enter Tryz.func50,Tryz.ntmps50
 go_wp2_with fail
 refine(Q1.out _ hB1).mono ?_;rintro e w2 ⟨rfl,hb2⟩;have HB2:=hi_ (hB1.trans (hb2.mono hB1.size));have HB0:=hi_ (show Blk w.heap.size #[.int .i64 0,.string ⟨#[]⟩,.slice none 0 0,.string ⟨#[]⟩,.int .i64 0,.int .i64 0,.int .i64 0,.int .i64 0,.int .i64 0] 126 w2 from (Blk.new w _ _).below hb2);clear hb2 Q1;go_wp2_with fail
 refine(mh_ _).mono ?_;rintro e w3 ⟨rfl,rfl⟩;obtain⟨⟨k0,k1,k2,k3,k4,k5,k6,k7,k8⟩,⟨f0,f1,f2,f3,f4,f5,f6,f7,f8⟩⟩:=bZ_ HB0.out;have hlt:w.heap.size<w2.heap.size:=HB0.out.lt;go_wp2_with fail
 have h9:=(Blk.set9 HB0.out (.int .i64 0) (.string ⟨#[]⟩) (.slice none 0 0) (.string ⟨#[]⟩) (.int .i64 0) (.int .i64 0) (.int .i64 0) (.int .i64 0) (.int .i64 0)).alloc (.cells #[.int .i64 0,.string ⟨#[]⟩,.slice none 0 0,.string ⟨#[]⟩,.int .i64 0,.int .i64 0,.int .i64 0,.int .i64 0,.int .i64 0] 126);have hb9:=d2_ HB2.out (nl_) (.int .i64 0) (.string ⟨#[]⟩) (.slice none 0 0) (.string ⟨#[]⟩) (.int .i64 0) (.int .i64 0) (.int .i64 0) (.int .i64 0) (.int .i64 0);have hb9:=hb9.alloc hb9.size (.cells #[.int .i64 0,.string ⟨#[]⟩,.slice none 0 0,.string ⟨#[]⟩,.int .i64 0,.int .i64 0,.int .i64 0,.int .i64 0,.int .i64 0] 126);obtain⟨⟨l0,l1,l2,l3,l4,l5,l6,l7,l8⟩,_⟩:=bZ_ h9
 change bodyPost _ _ _ _ _ (World.alloc (set9 w2 w.heap.size (.int .i64 0) (.string ⟨#[]⟩) (.slice none 0 0) (.string ⟨#[]⟩) (.int .i64 0) (.int .i64 0) (.int .i64 0) (.int .i64 0) (.int .i64 0)) (.cells #[.int .i64 0,.string ⟨#[]⟩,.slice none 0 0,.string ⟨#[]⟩,.int .i64 0,.int .i64 0,.int .i64 0,.int .i64 0,.int .i64 0] 126));generalize World.alloc _ _=W9 at *;refine bodyPost_ret (v:=.tuple #[.agg #[.int .i64 0,.string ⟨#[]⟩,.slice none 0 0,.string ⟨#[]⟩,.int .i64 0,.int .i64 0,.int .i64 0,.int .i64 0,.int .i64 0],.bool false]) (by simp[results,Tryz.results50,go_sem,l0,l1,l2,l3,l4,l5,l6,l7,l8]) rfl ⟨rfl,hb9⟩
def sgn(a b:Int):Int:=if a<b then -1 else if b<a then 1 else 0
theorem isNaN(a:Int)(w:World):Calls Tryz.prog 95 #[.int .i64 a] w fun e w'=>e=.returned (.bool false)/\w=w':=by
 go_enter Tryz.func95,Tryz.ntmps95
 go_wp2_with fail
 go_ret
 exact⟨ao_ (by simp),rfl⟩
theorem n6_(a b:Int)(w:World):Calls Tryz.prog 39 #[.int .i64 a,.int .i64 b] w fun e w'=>e=.returned (.int .i64 (sgn a b))/\w=w':=by
 have Q1:=hi_ (isNaN a w);have Q2:=hi_ (isNaN b w);have HS:Hid (sgn a b=if a<b then -1 else if b<a then 1 else 0):=hi_ rfl;generalize sgn a b=s at *
 go_enter Tryz.func39,Tryz.ntmps39
 go_wp2_with fail
 refine Q1.out.mono ?_;rintro e w1 ⟨rfl,rfl⟩;go_wp2_with fail
 refine Q2.out.mono ?_;rintro e w1 ⟨rfl,rfl⟩
 by_cases h1:a<b
 ·go_wp2_with fail
  go_ret
  exact⟨ay_ (a:=-1) (by rw[HS.out,if_pos h1]),rfl⟩
 ·by_cases h2:b<a
  ·go_wp2_with fail
   go_ret
   exact⟨ay_ (a:=1) (by rw[HS.out,if_neg (by omega),if_pos h2]),rfl⟩
  ·go_wp2_with fail
   go_ret
   exact⟨ay_ (a:=0) (by rw[HS.out,if_neg (by omega),if_neg (by omega)]),rfl⟩
theorem mg_{x y:List Nat}{i:Nat}(h:∀k,k<i->x[k]?=y[k]?)(hx:i<=x.length)(hy:i<=y.length):cmpL x y=cmpL (x.drop i) (y.drop i):=by
 have e:x.take i=y.take i:=by
  apply List.ext_getElem?;intro k;rw[List.getElem?_take,List.getElem?_take]
  by_cases hk:k<i
  ·rw[if_pos hk,if_pos hk,h k hk]
  ·rw[if_neg hk,if_neg hk]
 calc cmpL x y=cmpL (x.take i++x.drop i) (y.take i++y.drop i):=by rw[List.take_append_drop,List.take_append_drop]
  _=_:=by rw[e,c4_]
theorem drop_at{x:List Nat}{i a:Nat}(h:x[i]?=some a):x.drop i=a :: x.drop (i+1):=by
 have hi:i<x.length:=by
  rcases Nat.lt_or_ge i x.length with h2|h2
  ·exact h2
  ·rw[List.getElem?_eq_none h2]at h;cases h
 rw[List.drop_eq_getElem_cons hi]
 congr 1
 rw[List.getElem?_eq_getElem hi]at h;injection h
theorem np_{B1 B2:Nat}(v1 v2:Value)(x y:List Nat)(w:World)(h1:b4_ B1 w v1 x)(h2:b4_ B2 w v2 y)(hx:x.length<=1000000)(hy:y.length<=1000000) :
  Calls Tryz.prog 96 #[v1,v2] w fun e w'=>e=.returned (.int .i64 (cmpL x y))/\w=w':=by
 obtain⟨ao1,cap1,rfl,hc1⟩:=R.b4_.form h1;obtain⟨ao2,cap2,rfl,hc2⟩:=R.b4_.form h2;have HC1:=hi_ hc1;have HC2:=hi_ hc2;have QC:=hi_ (fun a b=>n6_ a b w);have HG:Hid (cmpL x y=cmpL x y):=hi_ rfl;generalize hz:cmpL x y=z at *;have HZ:=hi_ hz;generalize hlx:x.length=lx at *;generalize hly:y.length=ly at *;have HX:=hi_ hlx;have HY:=hi_ hly;clear h1 h2 hc1 hc2 hz hlx hly HG
 go_enter Tryz.func96,Tryz.ntmps96
 go_wp2_with fail
 go_loopw [11] (fun v11 wr=>∃i:Nat,v11=.int .i64 (i:Nat)/\wr=w/\i<=lx/\i<=ly/\Hid (∀k,k<i->x[k]?=y[k]?)) (fun v11 _=>lx-(aN_ v11).toNat)
 case atStart=>exact⟨0,rfl,rfl,Nat.zero_le _,Nat.zero_le _,hi_ (fun k hk=>by omega)⟩
 case round=>
  obtain⟨i,rfl,rfl,hi1,hi2,HE⟩:=hrel;have HD:=hi_ (mg_ HE.out (by rw[HX.out];exact hi1) (by rw[HY.out];exact hi2))
  by_cases e1:i=lx
  ·have n1:¬((i:Int)<(lx:Int)):=by omega
   by_cases e2:lx<ly
   ·have n2:((lx:Int)<(ly:Int)):=by omega
    go_wp2_with fail
    go_ret
    refine⟨ay_ (a:=-1) ?_,rfl⟩;rw[<-HZ.out,HD.out,List.drop_of_length_le (l:=x) (by rw[HX.out];omega)]
    cases hd:y.drop i with
    |nil=>have:=congrArg List.length hd;rw[List.length_drop,HY.out]at this;simp at this;omega
    |cons b t=>rfl
   ·have n2:¬((lx:Int)<(ly:Int)):=by omega
    go_wp2_with fail
    go_ret
    refine⟨ay_ (a:=0) ?_,rfl⟩;rw[<-HZ.out,HD.out,List.drop_of_length_le (l:=x) (by rw[HX.out];omega),List.drop_of_length_le (l:=y) (by rw[HY.out];omega)];rfl
  ·have n1:((i:Int)<(lx:Int)):=by omega
   have hil:i<x.length:=by rw[HX.out];omega
   have hx1:x[i]?=some x[i]:=List.getElem?_eq_getElem hil;obtain⟨g1,rfl,hg1,c1⟩:=HC1.out _ _ hx1;have HD1:=hi_ (drop_at hx1);generalize x[i]=a at *;clear hil
   by_cases e2:i=ly
   ·have n2:((ly:Int)<=(i:Int)):=by omega
    have HQ:Hid (z=1):=hi_ (by rw[<-HZ.out,HD.out,HD1.out,List.drop_of_length_le (l:=y) (by rw[HY.out];omega)];rfl);clear hx1 e2;go_wp2_with fail
    go_ret
    exact⟨ay_ (a:=1) HQ.out.symm,rfl⟩
   ·have n2:¬((ly:Int)<=(i:Int)):=by omega
    have n3:((i:Int)<(ly:Int)):=by omega
    have hjl:i<y.length:=by rw[HY.out];omega
    have hy1:y[i]?=some y[i]:=List.getElem?_eq_getElem hjl;obtain⟨g2,rfl,hg2,c2⟩:=HC2.out _ _ hy1;have HD2:=hi_ (drop_at hy1);generalize y[i]=b at *;clear hjl;have HH1:=hi_ hx1;have HH2:=hi_ hy1;have HQ:Hid (z=if a<b then -1 else if b<a then 1 else cmpL (x.drop (i+1)) (y.drop (i+1))):=hi_ (by rw[<-HZ.out,HD.out,HD1.out,HD2.out,cmpL]);have Q3:=hi_ (QC.out a b);unfold sgn at Q3;clear hx1 hy1
    by_cases l1:a<b
    ·rw[if_pos (by omega)]at Q3
     go_wp2_with fail
     refine Q3.out.mono ?_;rintro e w1 ⟨rfl,rfl⟩;go_wp2_with fail
     go_ret
     exact⟨ay_ (a:=-1) (by rw[HQ.out,if_pos l1]),rfl⟩
    ·by_cases l2:b<a
     ·rw[if_neg (by omega),if_pos (by omega)]at Q3
      go_wp2_with fail
      refine Q3.out.mono ?_;rintro e w1 ⟨rfl,rfl⟩;go_wp2_with fail
      go_ret
      exact⟨ay_ (a:=1) (by rw[HQ.out,if_neg l1,if_pos l2]),rfl⟩
     ·rw[if_neg (by omega),if_neg (by omega)]at Q3
      have hab:=hi_ (show a=b by omega);go_wp2_with fail
      refine Q3.out.mono ?_;rintro e w1 ⟨rfl,rfl⟩;go_wp2_with fail
      go_roundw
      case rel=>
       refine⟨i+1,?_,trivial,by omega,by omega,hi_ (fun k hk=>?_)⟩
       ·first|rfl|(congr 1)
       ·by_cases hk2:k=i
        ·rw[hk2,HH1.out,HH2.out,hab.out]
        ·exact HE.out k (by omega)
      case measure=>
       show lx-((i:Int)+1).toNat<lx-((i:Int)).toNat;omega
end A
end
section
open Go.RowKit
namespace N
def firstOk(s:List UInt8):Bool:=match s with | []=>false|c :: _=>decide (97<=c.toNat) && decide (c.toNat<=122)
theorem l6_(s:List UInt8):G.dp_ s=(firstOk s && (!s.isEmpty && gg_ s && !decide (0<=Lib.indexAny s CS.data.toList))):=by
 unfold G.dp_;rw[hD_]
 cases s<;>rfl
theorem long_(s:List UInt8)(w:World) :
  Calls Tryz.prog 108 #[.string ⟨s.toArray⟩] w fun e w'=>e=.returned (.bool (decide (1048576<s.length)))/\w=w':=by
 have hsz:(⟨s.toArray⟩:ByteArray).size=s.length:=H.aM_ s;have HD:Hid (decide (1048576<s.length)=decide ((1048576:Int)<(s.length:Int))):=hi_ (decide_eq_decide.2 (by omega));generalize (⟨s.toArray⟩:ByteArray)=S at *
 go_enter Tryz.func108,Tryz.ntmps108
 go_wp2_with fail
 go_ret
 refine⟨?_,rfl⟩;rw[HD.out]
 first|rfl|simp[gt_iff_lt]
theorem elementName_(s:List UInt8)(w:World)(hs:s.length<=100000)(hT:T.Tabs w) :
  Calls Tryz.prog 106 #[.string ⟨s.toArray⟩] w fun e w'=>e=.returned (.bool (G.dp_ s))/\Below w.heap.size w w':=by
 have hsz:(⟨s.toArray⟩:ByteArray).size=s.length:=H.aM_ s;have hdt:(⟨s.toArray⟩:ByteArray).data.toList=s:=by simp
 have QL:=n2_ ⟨s.toArray⟩ w (by omega) hT;have QC:=fun W=>fb_ ⟨s.toArray⟩ W (by omega);rw[hdt]at QL QC;have HQ:=hi_ QL;have HC:=hi_ QC;have HV:=hi_ (l6_ s);generalize G.dp_ s=V at *;clear QL QC hT
 cases s with
 |nil=>
  have HF:Hid (V=false):=HV;clear HQ HC HV hsz hdt
  go_enter Tryz.func106,Tryz.ntmps106
  go_wp2_with fail
  go_ret
  exact⟨H.ao_ HF.out.symm,br_⟩
 |cons c t=>
  have hne:(⟨(c :: t).toArray⟩:ByteArray).toList.isEmpty=false:=by rw[Lib.toList_data];rfl
  have HV2:Hid (V=(decide (97<=c.toNat) && decide (c.toNat<=122) && (gg_ (c :: t) && !decide (0<=Lib.indexAny (c :: t) CS.data.toList)))):=hi_ (by rw[HV.out];rfl);have hp:0<(⟨(c :: t).toArray⟩:ByteArray).size:=by rw[hsz];simp
  have hc0:(⟨(c :: t).toArray⟩:ByteArray)[0]'hp=c:=rfl;generalize gg_ (c :: t)=v1 at *;generalize Lib.indexAny (c :: t) CS.data.toList=z at *;clear HV hdt hsz;generalize hS:(⟨(c :: t).toArray⟩:ByteArray)=S at *;have hp1:(0:Int)<(S.size:Int):=by omega
  clear hS
  by_cases h1:97<=c.toNat
  ·have h1':(97:Int)<=(c.toNat:Int):=by omega
   by_cases h2:c.toNat<=122
   ·have h2':(c.toNat:Int)<=122:=by omega
    have HV3:Hid (V=(v1 && !decide (0<=z))):=hi_ (by rw[HV2.out,decide_eq_true h1,decide_eq_true h2];rfl);clear h1 h2 HV2
    go_enter Tryz.func106,Tryz.ntmps106
    go_wp2_with fail
    refine HQ.out.mono ?_;rintro e w1 ⟨rfl,b1⟩;have HB1:=hi_ b1;clear b1
    cases v1 with
    |false=>
     have HF:=hi_ (show V=false by rw[HV3.out];rfl);go_wp2_with fail
     go_ret
     exact⟨H.ao_ HF.out.symm,HB1.out⟩
    |true=>
     have HV4:=hi_ (show V = !decide (0<=z) by rw[HV3.out,Bool.true_and]);generalize hd:decide (0<=z)=d at *;clear hd;go_wp2_with fail
     refine(HC.out _).mono ?_;rintro e w2 ⟨rfl,b2⟩;have HB2:=bt_ HB1 b2;clear b2;go_wp2_with fail
     go_ret
     exact⟨H.ao_ HV4.out.symm,HB2.out⟩
   ·have h2':¬(c.toNat:Int)<=122:=by omega
    have HF:Hid (V=false):=hi_ (by rw[HV2.out,decide_eq_false h2,Bool.and_false,Bool.false_and]);clear h1 h2 HV2
    go_enter Tryz.func106,Tryz.ntmps106
    go_wp2_with fail
    go_ret
    exact⟨H.ao_ HF.out.symm,br_⟩
  ·have h1':¬(97:Int)<=(c.toNat:Int):=by omega
   have HF:Hid (V=false):=hi_ (by rw[HV2.out,decide_eq_false h1,Bool.false_and,Bool.false_and]);clear h1 HV2
   go_enter Tryz.func106,Tryz.ntmps106
   go_wp2_with fail
   go_ret
   exact⟨H.ao_ HF.out.symm,br_⟩
end N
end
section
open Go.RowKit Go.Sort
namespace A
open H G
theorem kN_{T:am_}{m:aa_}{pos:Nat->Nat}(F:Fits T m pos)(j:Nat):has m j=true->has m (top m j)=true:=by
 refine F.wf.up_ind (P:=fun j=>has m j=true->has m (top m j)=true) (fun h hp hh=>?_) (fun h p hp ih hh=>?_) j
 ·rw[F.wf.top_root hp];exact hh
 ·rw[F.wf.top_step hp];exact ih (bC_ F hh hp)
theorem ji_{m:aa_}(W:WF m)(j:Nat):(ba_ m j).length+1=depth m j:=by
 refine W.up_ind (P:=fun j=>(ba_ m j).length+1=depth m j) (fun h hp=>?_) (fun h p hp ih=>?_) j
 ·rw[a7_ hp,W.depth_root hp];rfl
 ·rw[W.pidx_step hp,W.depth_step hp,List.length_append];simp;omega
theorem no_(T:am_)(m:aa_)(pos:Nat->Nat)(i j:Nat)(w:World)(hT:aj_ w T m pos)(hi:has m i=true)(hj:has m j=true)(ht:top m i=top m j) :
  Calls Tryz.prog 42 #[.pointer (some ⟨T.tb,0,none⟩),.int .i64 (hd T pos i),.int .i64 (hd T pos j)] w fun e w'=>e=.returned (.tuple #[.int .i64 (cmpL (ba_ m i) (ba_ m j)),.int .i64 0])/\Below w.heap.size w w':=by
 have hF:=hT.fits;have hfew:=hT.mem.few;have QA:=hi_ (fun(y:Nat) (hy:has m y=true) W (hb:Below w.heap.size w W)=>at_ T (hd T pos y) W (hT.below hb).mem (by have:=aP_ (T:=T) (pos:=pos) y;omega) (by have:=bA_ hfew hF hy;omega));have QT:=hi_ (fun(y:Nat) (hy:has m y=true) W (hb:Below w.heap.size w W)=>top_ T m pos y W (hT.below hb) hy);have QP:=hi_ (fun(y:Nat) (hy:has m y=true) W (hb:Below w.heap.size w W)=>path_ T m pos y W (hT.below hb) hy);have Q1:=hi_ (QA.out i hi);have Q2:=hi_ (QA.out j hj);rw[bH_ hfew hF hi 1]at Q1;rw[bH_ hfew hF hj 1]at Q2;have Q3:=hi_ (QT.out i hi);have Q4:=hi_ (QT.out j hj);rw[ht]at Q3;have Q5:=hi_ (QP.out i hi);have Q6:=hi_ (QP.out j hj);have l1:=ji_ hF.wf i;have l2:=ji_ hF.wf j;have l3:=hF.wf.depth_le i;have l4:=hF.wf.depth_le j
 generalize ba_ m i=x at *;generalize ba_ m j=y at *;generalize hd T pos i=zi at *;generalize hd T pos j=zj at *;generalize hd T pos (top m j)=zt at *;clear hT QA QT QP hF
 go_enter Tryz.func42,Tryz.ntmps42
 go_wp2_with fail
 refine(Q1.out _ (br_)).mono ?_;rintro e w1 ⟨rfl,hb⟩;have HB1:=hi_ hb;clear hb;go_wp2_with fail
 refine(Q2.out _ HB1.out).mono ?_;rintro e w2 ⟨rfl,hb⟩;have HB2:=bt_ HB1 hb;clear hb;go_wp2_with fail
 refine(Q3.out _ HB2.out).mono ?_;rintro e w3 ⟨rfl,hb⟩;have HB3:=bt_ HB2 hb;clear hb;go_wp2_with fail
 refine(Q4.out _ HB3.out).mono ?_;rintro e w4 ⟨rfl,hb⟩;have HB4:=bt_ HB3 hb;clear hb;go_wp2_with fail
 refine(Q5.out _ HB4.out).mono ?_;rintro e w5 ⟨v5,rfl,hb,ho5⟩;have HB5:=bt_ HB4 hb;have HO5:=hi_ ho5;clear hb ho5;go_wp2_with fail
 refine(Q6.out _ HB5.out).mono ?_;rintro e w6 ⟨v6,rfl,hb,ho6⟩;have HB6:=bt_ HB5 hb;have HO6:=hi_ (own_below HO5.out hb);have QC:=hi_ (np_ v5 v6 x y w6 HO6.out ho6 (by omega) (by omega));clear hb ho6;go_wp2_with fail
 refine QC.out.mono ?_;rintro e w7 ⟨rfl,rfl⟩;go_wp2_with fail
 exact bodyPost_ret (v:=.tuple #[.int .i64 (cmpL x y),.int .i64 0]) (by simp[results,Tryz.results42,go_sem]) rfl ⟨rfl,HB6.out⟩
end A
end
section
open Go.RowKit Go.Sort
namespace A
open H G
section
variable {w w0:World} {g:Nat} {t:TypeId} {cs:Array Value}
def set11(w:World)(g:Nat)(b0 b1 b2 b3 b4 b5 b6 b7 b8 b9 b10:Value):World:=(((((((((((w.setCell ⟨g,0,none⟩ b0).setCell ⟨g,1,none⟩ b1).setCell ⟨g,2,none⟩ b2).setCell ⟨g,3,none⟩ b3).setCell ⟨g,4,none⟩ b4).setCell ⟨g,5,none⟩ b5).setCell ⟨g,6,none⟩ b6).setCell ⟨g,7,none⟩ b7).setCell ⟨g,8,none⟩ b8).setCell ⟨g,9,none⟩ b9).setCell ⟨g,10,none⟩ b10)
theorem Blk.set11{a0 a1 a2 a3 a4 a5 a6 a7 a8 a9 a10:Value}(h:Blk g #[a0,a1,a2,a3,a4,a5,a6,a7,a8,a9,a10] t w)(b0 b1 b2 b3 b4 b5 b6 b7 b8 b9 b10:Value):Blk g #[b0,b1,b2,b3,b4,b5,b6,b7,b8,b9,b10] t (A.set11 w g b0 b1 b2 b3 b4 b5 b6 b7 b8 b9 b10):=by
 have h9:=(((((((((((h.set 0 b0).set 1 b1).set 2 b2).set 3 b3).set 4 b4).set 5 b5).set 6 b6).set 7 b7).set 8 b8).set 9 b9).set 10 b10);simp only[List.setIfInBounds_toArray,List.set_cons_zero,List.set_cons_succ]at h9;exact h9
theorem ej_{B:Nat}(h:Below B w0 w)(hg:B<=g)(b0 b1 b2 b3 b4 b5 b6 b7 b8 b9 b10:Value):Below B w0 (set11 w g b0 b1 b2 b3 b4 b5 b6 b7 b8 b9 b10):=(a0_ (a0_ (a0_ (a0_ (a0_ (a0_ (a0_ (a0_ (a0_ (a0_ (a0_ h hg) hg) hg) hg) hg) hg) hg) hg) hg) hg) hg)
theorem cq_{S:Nat->Prop}(h:H.Frame S w0 w)(hg:S g\/w0.heap.size<=g)(b0 b1 b2 b3 b4 b5 b6 b7 b8 b9 b10:Value):H.Frame S w0 (set11 w g b0 b1 b2 b3 b4 b5 b6 b7 b8 b9 b10):=(Frame.set (Frame.set (Frame.set (Frame.set (Frame.set (Frame.set (Frame.set (Frame.set (Frame.set (Frame.set (Frame.set h hg 0 b0) hg 1 b1) hg 2 b2) hg 3 b3) hg 4 b4) hg 5 b5) hg 6 b6) hg 7 b7) hg 8 b8) hg 9 b9) hg 10 b10)
theorem Blk.far11{k:Nat}(h:Blk g cs t w)(hne:g≠k)(b0 b1 b2 b3 b4 b5 b6 b7 b8 b9 b10:Value):Blk g cs t (A.set11 w k b0 b1 b2 b3 b4 b5 b6 b7 b8 b9 b10):=(Blk.far (Blk.far (Blk.far (Blk.far (Blk.far (Blk.far (Blk.far (Blk.far (Blk.far (Blk.far (Blk.far h hne 0 b0) hne 1 b1) hne 2 b2) hne 3 b3) hne 4 b4) hne 5 b5) hne 6 b6) hne 7 b7) hne 8 b8) hne 9 b9) hne 10 b10)
theorem bm_{a0 a1 a2 a3 a4 a5 a6 a7 a8 a9 a10:Value}(h:Blk g #[a0,a1,a2,a3,a4,a5,a6,a7,a8,a9,a10] t w):(w.cell? ⟨g,0,none⟩=some a0/\w.cell? ⟨g,1,none⟩=some a1/\w.cell? ⟨g,2,none⟩=some a2/\w.cell? ⟨g,3,none⟩=some a3/\w.cell? ⟨g,4,none⟩=some a4/\w.cell? ⟨g,5,none⟩=some a5/\w.cell? ⟨g,6,none⟩=some a6/\w.cell? ⟨g,7,none⟩=some a7/\w.cell? ⟨g,8,none⟩=some a8/\w.cell? ⟨g,9,none⟩=some a9/\w.cell? ⟨g,10,none⟩=some a10)/\(w.frozen? ⟨g,0,none⟩=false/\w.frozen? ⟨g,1,none⟩=false/\w.frozen? ⟨g,2,none⟩=false/\w.frozen? ⟨g,3,none⟩=false/\w.frozen? ⟨g,4,none⟩=false/\w.frozen? ⟨g,5,none⟩=false/\w.frozen? ⟨g,6,none⟩=false/\w.frozen? ⟨g,7,none⟩=false/\w.frozen? ⟨g,8,none⟩=false/\w.frozen? ⟨g,9,none⟩=false/\w.frozen? ⟨g,10,none⟩=false):=by
 obtain⟨hc,hf⟩:=ad_ h;exact⟨⟨hc 0,hc 1,hc 2,hc 3,hc 4,hc 5,hc 6,hc 7,hc 8,hc 9,hc 10⟩,⟨hf 0 (by show 0<11;omega),hf 1 (by show 1<11;omega),hf 2 (by show 2<11;omega),hf 3 (by show 3<11;omega),hf 4 (by show 4<11;omega),hf 5 (by show 5<11;omega),hf 6 (by show 6<11;omega),hf 7 (by show 7<11;omega),hf 8 (by show 8<11;omega),hf 9 (by show 9<11;omega),hf 10 (by show 10<11;omega)⟩⟩
end
theorem al_.store{w:World}{T:am_}(h:al_ w T){s k:Nat}(hs:s<T.slots.length)(hk:k<10)(u:Value)(f:em_->em_)(hf:a5_ (f (T.sl s))=(a5_ (T.sl s)).set k u)(ha:∀r,(f r).attrs=r.attrs/\(f r).al=r.al) :
  al_ (w.setCell ⟨T.g,s*10+k,none⟩ u) (T.modS s f):=by
 have hg1:T.tb≠T.g:=fun e=>ak_ h.row h.blk (by decide) (by rw[e];rfl);have hgf:T.freeV.ownBlock≠some T.g:=fun e=>aU_ h.free h.row (by decide) e rfl;have hga:∀r,r∈T.slots->r.attrs.ownBlock≠some T.g:=fun r hr e=>aU_ (h.attrs r hr) h.row (by decide) e rfl;have hlen:(T.modS s f).slots.length=T.slots.length:=cY_ T s f;refine⟨?_,?_,by rw[hlen];exact h.few,h.bb,au_ h.free hgf _ _,?_⟩
 ·have h1:=h.blk.far hg1 (s*10+k) u
  unfold gr_ at h1 ⊢;rw[hlen];exact h1
 ·exact ac_.store bq_ h.row hs hk u f (by rw[<-gX_ hs];exact hf)
 ·intro r hr
  unfold am_.modS at hr;obtain⟨i,hi⟩:=List.mem_iff_getElem?.1 hr;rw[List.getElem?_modify]at hi
  cases h2:T.slots[i]? with
  |none=>rw[h2]at hi;split at hi<;>cases hi
  |some r0=>
   have hm:=List.mem_of_getElem? h2;rw[h2]at hi;have h3:=au_ (h.attrs r0 hm) (hga r0 hm) (s*10+k) u
   split at hi
   ·have e:f r0=r:=by simpa using hi
    rw[<-e,(ha r0).1,(ha r0).2];exact h3
   ·have e:r0=r:=by simpa using hi
    rw[<-e];exact h3
theorem kV_{T:am_}{s:Nat}{f:em_->em_}(hf:∀r,(f r).used=r.used)(i:Nat):((T.modS s f).sl i).used=(T.sl i).used:=by
 show((T.slots.modify s f).getD i aS_).used=(T.slots.getD i aS_).used;rw[List.getD_eq_getElem?_getD,List.getD_eq_getElem?_getD,List.getElem?_modify]
 cases T.slots[i]? with
 |none=>split<;>rfl
 |some r=>
  split
  ·exact hf r
  ·rfl
theorem at_modS{T:am_}{s:Nat}{f:em_->em_}(hf:∀r,(f r).used=r.used)(z:Int):(T.modS s f).at_ z=T.at_ z:=by
 unfold am_.at_;show(match dA_ T.bs T.st z with|some i=>_|none=>none)=_
 cases dA_ T.bs T.st z with
 |none=>rfl
 |some i=>
  dsimp only;have hl:=cY_ T s f
  by_cases hi:i<T.slots.length
  ·have hi':i<(T.modS s f).slots.length:=by rw[hl];exact hi
   rw[dif_pos hi',dif_pos hi];have:((T.modS s f).slots[i]).used=(T.slots[i]).used:=by rw[<-gX_ hi',<-gX_ hi];exact kV_ hf i
   rw[this]
  ·rw[dif_neg (by rw[hl];exact hi),dif_neg hi]
theorem mP_{T:am_}{s:Nat}{f:em_->em_}(hf:∀r,(f r).used=r.used)(o:Nat)(z:Int):(T.modS s f).ptr o z=T.ptr o z:=by
 unfold am_.ptr;rw[at_modS hf];rfl
theorem al_.cell{w:World}{T:am_}(h:al_ w T){s k:Nat}(hs:s<T.slots.length)(hk:k<10):w.cell? ⟨T.g,s*10+k,none⟩=(a5_ (T.sl s))[k]?/\w.frozen? ⟨T.g,s*10+k,none⟩=false:=by
 rw[gX_ hs];exact ac_.cell bq_ h.row hs hk
def aB_(T:am_)(pos:Nat->Nat)(r:Rec):List Value:=[.int .i64 r.kind,.int .i64 (hd T pos r.target),.int .i64 (hdO T pos r.node),.int .i64 (hdO T pos r.prev),.int .i64 (hdO T pos r.next),.int .i64 r.index,.string ⟨r.name.toArray⟩,.string ⟨r.old.toArray⟩,.bool r.had,.int .i64 r.count,.int .i64 r.size]
theorem dg_(T:am_)(pos:Nat->Nat)(r:Rec):(aB_ T pos r).length=11:=rfl
end A
end
section
open Go.RowKit Go.Sort
namespace A
open H G
theorem gd_{P:Program}{e:TypeId}(he:P.underlying e=some .bool){v:Value}{b:Bool}{ps:List MemPlace}(h:plainElem (H:=Nat) P e v=some (.lit (.bool b),ps)):v=.bool b:=by
 unfold plainElem at h;rw[he]at h
 cases v<;>simp at h
 rw[h.1]
def cb_(w:World)(b n:Nat)(S:List (List UInt8)):Prop:=
 ∃D:DataW Nat,w.ownsMap Tryz.prog 9 (plainElem Tryz.prog 4) b n D/\Maps.IsMap D/\∀k,D.atKey (.string k) (.lit (.bool false))=.lit (.bool (S.contains k))
theorem hC_(k:List UInt8)(hk:k.length<=maxLen):keyOf Tryz.prog 9 (.string ⟨k.toArray⟩)=some (.string k):=by
 have:=WideMaps.keyOf_string_mk (P:=Tryz.prog) (k:=9) Tryz.underlying9 (s:=⟨k.toArray⟩) (by rw[H.aM_];exact hk);simpa using this
theorem cb_.made(w:World):cb_ (w.alloc (.map #[] 0)) w.heap.size 0 []:=
 ⟨.map [],World.ownsMap_made w _ _ _,⟨[],rfl⟩,fun k=>rfl⟩
theorem cb_.lookup{w:World}{b n:Nat}{S:List (List UInt8)}(h:cb_ w b n S)(k:List UInt8)(hk:k.length<=maxLen):(Instr.lookup 225 (.map (some b)) (.string ⟨k.toArray⟩) false).run Tryz.prog w=.ok (.bool (S.contains k)) w:=by
 obtain⟨D,hm,_,hD⟩:=h;obtain⟨v,ps,hrun,hv⟩:=hm.lookup (Maps.string_keyed Tryz.underlying9) Tryz.underlying225 (Tryz.zeroValue4 w) (plainElem_bool Tryz.underlying4 false) (hC_ k hk);rw[hD k]at hv;rw[gd_ Tryz.underlying4 hv]at hrun;exact hrun
theorem cb_.update{w:World}{b n:Nat}{S:List (List UInt8)}(h:cb_ w b n S)(k:List UInt8)(hk:k.length<=maxLen)(hn:n<maxLen) :
  ∃w',(Instr.mapUpdate 225 (.map (some b)) (.string ⟨k.toArray⟩) (.bool true)).run Tryz.prog w=.ok () w'/\cb_ w' b (n+1) (S++[k])/\w.grownBy w' (some b):=by
 obtain⟨D,hm,hI,hD⟩:=h;obtain⟨w',hrun,h1,h2⟩:=hm.update (Maps.string_keyed Tryz.underlying9) Tryz.underlying225 hn (hC_ k hk) (plainElem_bool Tryz.underlying4 true);refine⟨w',hrun,⟨_,h1,?_,fun k'=>?_⟩,h2⟩
 ·obtain⟨es,rfl⟩:=hI;exact⟨_,rfl⟩
 ·by_cases e:k'=k
  ·subst e
   rw[Maps.atKey_put_same hI (by trivial)];simp
  ·rw[Maps.atKey_put_other (fun h=>e (by injection h)),hD k']
   simp[e]
theorem cb_.kept{w w':World}{row:Option Nat}{b n:Nat}{S:List (List UInt8)}(h:cb_ w b n S)(hg:w.grownBy w' row)(hne:some b≠row):cb_ w' b n S:=by
 obtain⟨D,h1,h2,h3⟩:=h;exact⟨D,h1.kept hg hne,h2,h3⟩
theorem cb_.below{w w':World}{b n:Nat}{S:List (List UInt8)}(h:cb_ w b n S)(hb:Below w.heap.size w w'):cb_ w' b n S:=h.kept (row:=none) ⟨hb.os,hb.tape,hb.output,hb.size,fun k hk _=>hb.block k hk⟩ (by simp)
theorem attrs_(v:Value)(l:List (List UInt8×List UInt8))(w:World)(h:aw_ w v l)(hl:l.length<=1000)(hs:∀a,a∈l->a.1.length<=100000)(hT:T.Tabs w) :
  Calls Tryz.prog 107 #[v] w fun e w'=>e=.returned (.bool (aW_ l []))/\Below w.heap.size w w':=by
 obtain⟨ao,cap,hv⟩:=aw_.slice h;subst hv;have HM0:=hi_ (cb_.made w);have HT:=hi_ hT;have HA:=hi_ h;have HS:=hi_ hs;have HB0:=hi_ ((Below.refl w.heap.size w).alloc (nl_) (.map #[] 0));have QN:=hi_ (fun(s:List UInt8) (hs:s.length<=100000) W (hW:Below w.heap.size w W)=>N.attrName_ s W hs (hT.below hW));have HR:Hid (aW_ l []=aW_ l []):=hi_ rfl;clear h hs hT
 go_enter Tryz.func107,Tryz.ntmps107
 have hmm:=@run_makeMap Tryz.prog;go_wp2_with fail
 go_loopw [9] (fun v9 wr=>∃i:Nat,v9=.int .i64 i/\i<=l.length/\Below w.heap.size w wr/\cb_ wr w.heap.size i ((l.take i).map (·.1))/\Hid (aW_ l []=aW_ (l.drop i) ((l.take i).map (·.1)))) (fun v9 _=>l.length-(aN_ v9).toNat)
 case atStart=>exact⟨0,rfl,Nat.zero_le _,HB0.out,HM0.out,hi_ rfl⟩
 case round=>
  obtain⟨i,rfl,hi,hB,hN,HI⟩:=hrel;have HBr:=hi_ hB;have HN:=hi_ hN;have hlw:=hB.size;clear hB hN HM0 HB0
  by_cases hil:i<l.length
  ·have hiI:(i:Int)<(l.length:Int):=by omega
   obtain⟨g,cap',hv,hgl⟩:=(HA.out.form).resolve_left (fun h=>by have:=h.2;rw[this]at hil;simp at hil);injection hv with e1 _ e3
   subst e1 e3;have hA2:aw_ wr (.slice (some ⟨g,0,none⟩) l.length cap) l:=own_below HA.out HBr.out;have hc0:=(ac_.cell aq_ hA2 hil (k:=0) (by omega)).1;have hc1:=(ac_.cell aq_ hA2 hil (k:=1) (by omega)).1;have hgl2:g<wr.heap.size:=by omega
   have hmem:=List.getElem_mem hil;have hlen:=HS.out _ hmem;have HD:Hid (l.drop i=l[i] :: l.drop (i+1)):=hi_ (List.drop_eq_getElem_cons hil);have HTk:Hid ((l.take (i+1)).map (·.1)=(l.take i).map (·.1)++[l[i].1]):=hi_ (by rw[List.take_succ_eq_append_getElem hil,List.map_append];rfl);generalize l[i]=a at *;obtain⟨nm,vl⟩:=a;have k0:wr.cell? ⟨g,i*2,none⟩=some (.string ⟨nm.toArray⟩):=hc0;have k1:wr.cell? ⟨g,i*2+1,none⟩=some (.string ⟨vl.toArray⟩):=hc1;have HB2:=hi_ (HBr.out.alloc HBr.out.size (.cells #[.string ⟨nm.toArray⟩,.string ⟨vl.toArray⟩] 142));have HN2:=hi_ (HN.out.below ((Below.refl wr.heap.size wr).alloc (nl_) (.cells #[.string ⟨nm.toArray⟩,.string ⟨vl.toArray⟩] 142)))
   have HX2:=hi_ (show Blk wr.heap.size #[.string ⟨nm.toArray⟩,.string ⟨vl.toArray⟩] 142 (wr.alloc (.cells #[.string ⟨nm.toArray⟩,.string ⟨vl.toArray⟩] 142))from Blk.new _ _ _);have Q1:=hi_ (QN.out nm hlen _ HB2.out);have HI2:Hid (aW_ l []=(bK_ nm && !((l.take i).map (·.1)).contains nm && aW_ (l.drop (i+1)) ((l.take i).map (·.1)++[nm]))):=hi_ (by rw[HI.out,HD.out];rfl);generalize (l.take i).map (·.1)=S at *;generalize bK_ nm=v1 at *;clear hc0 hc1 hA2 HI HD hmem;go_wp2_with fail
   refine Q1.out.mono ?_;rintro e w3 ⟨rfl,hb3⟩;have HB3:=bt_ HB2 hb3;have HN3:=hi_ (HN2.out.below hb3);obtain⟨hx,_⟩:=ad_ (HX2.out.below hb3);have x0:w3.cell? ⟨wr.heap.size,0,none⟩=some (.string ⟨nm.toArray⟩):=hx 0;have hl3:=(HX2.out.below hb3).lt;clear hb3 hx
   cases v1 with
   |false=>
    have HF:Hid (aW_ l []=false):=hi_ (by rw[HI2.out];rfl);go_wp2_with fail
    go_ret
    exact⟨H.ao_ HF.out.symm,HB3.out⟩
   |true=>
    have hrun:=HN3.out.lookup nm (by unfold maxLen;omega)
    cases hsc:S.contains nm with
    |true=>
     have HF:Hid (aW_ l []=false):=hi_ (by rw[HI2.out,hsc];rfl);rw[hsc]at hrun;go_wp2_with fail
     go_ret
     exact⟨H.ao_ HF.out.symm,HB3.out⟩
    |false=>
     rw[hsc]at hrun;have HI3:Hid (aW_ l []=aW_ (l.drop (i+1)) (S++[nm])):=hi_ (by rw[HI2.out,hsc];rfl);obtain⟨w4,hup,hN4,hg4⟩:=HN3.out.update nm (by unfold maxLen;omega) (by unfold maxLen;omega);have HB4:=hi_ (HB3.out.grown hg4 HB3.out.size (fun k hk=>by injection hk with hk;rw[<-hk];exact nl_));have HN4:=hi_ hN4;clear hg4 hN4 hsc;go_wp2_with fail
     go_roundw
     case rel=>exact⟨i+1,by go_num,by omega,HB4.out,by rw[HTk.out];exact HN4.out,by rw[HTk.out];exact HI3⟩
     case measure=>simp[aN_];omega
  ·have hiI:¬(i:Int)<(l.length:Int):=by omega
   have HF:Hid (aW_ l []=true):=hi_ (by rw[HI.out,List.drop_eq_nil_of_le (by omega)];rfl);go_wp2_with fail
   go_ret
   exact⟨H.ao_ HF.out.symm,HBr.out⟩
end A
end
section
open Go.RowKit Go.Shelf
attribute [local go_sem] Oper.semAt_some
namespace A
open H G
structure dt_(O:World->Nat->Prop)(W W':World):Prop where
 frame:H.Frame (O W) W W'
 own:∀b,O W' b->O W b\/W.heap.size<=b
theorem dt_.trans{O:World->Nat->Prop}{A B C:World}(h:dt_ O A B)(k:dt_ O B C):dt_ O A C:=by
 refine⟨⟨k.frame.os.trans h.frame.os,k.frame.tape.trans h.frame.tape,k.frame.output.trans h.frame.output,Nat.le_trans h.frame.size k.frame.size,fun i hi hn=>?_⟩,fun b hb=>?_⟩
 ·exact(k.frame.block i (Nat.lt_of_lt_of_le hi h.frame.size) (fun ho=>(h.own i ho).elim hn (fun h2=>by omega))).trans (h.frame.block i hi hn)
 ·rcases k.own b hb with h1|h1
  ·exact h.own b h1
  ·exact Or.inr (Nat.le_trans h.frame.size h1)
theorem dt_.of_below{O:World->Nat->Prop}{W W':World}(hb:Below W.heap.size W W')(ho:∀b,O W' b->O W b):dt_ O W W':=⟨H.Frame.of hb,fun b h=>Or.inl (ho b h)⟩
structure Keeps(O:World->Nat->Prop)(J:Nat->World->Prop)(w0:World):Prop where
 go:∀k W W',J k W->Below W.heap.size W W'->J k W'
 below:∀k W,J k W->Below w0.heap.size w0 W
 lt:∀k W b,J k W->O W b->b<W.heap.size
 old:∀k W W' b,J k W->Below W.heap.size W W'->O W' b->O W b
theorem h0_{L ks r:List Nat}{f:Nat->List Nat}{k i x:Nat}(h:L.drop (k+1)=ks.flatMap f++r)(hx:ks[i]?=some x) :
  (∃r',L.drop (k+1+((ks.take i).flatMap f).length)=f x++r')/\k+1+((ks.take i).flatMap f).length+(f x).length=k+1+((ks.take (i+1)).flatMap f).length:=by
 have hi:i<ks.length:=(List.getElem?_eq_some_iff.1 hx).1;have e0:ks=ks.take i++x :: ks.drop (i+1):=by
  have h1:ks.drop i=x :: ks.drop (i+1):=by
   rw[List.drop_eq_getElem_cons hi,(List.getElem?_eq_some_iff.1 hx).2]
  rw[<-h1,List.take_append_drop]
 constructor
 ·refine⟨(ks.drop (i+1)).flatMap f++r,?_⟩
  have e1:ks.flatMap f++r=(ks.take i).flatMap f++(f x++((ks.drop (i+1)).flatMap f++r)):=by
   conv=>lhs;rw[e0]
   rw[List.flatMap_append,List.flatMap_cons,List.append_assoc,List.append_assoc]
  rw[<-List.drop_drop,h,e1,List.drop_left]
 ·rw[List.take_add_one,hx,List.flatMap_append,List.length_append]
  simp;omega
theorem hy_{O:World->Nat->Prop}{W W':World}{base n size:Nat}{e:TypeId}{v:Value}{xs:List Value}(h:W.ownsRow base e size v n xs)(r:dt_ O W W')(hn:∀g,v.ownBlock=some g->¬O W g) :
  W'.ownsRow base e size v n xs/\∀g,v.ownBlock=some g->¬O W' g:=
 ⟨ah_ h r.frame hn,fun g hg ho=>(r.own g ho).elim (hn g hg) (fun h2=>by have:=(World.ownsRow.lt h g hg).2;omega)⟩
theorem walk_it(T:am_)(m:aa_)(pos:Nat->Nat)(w0:World)(hT:aj_ w0 T m pos)(L:List Nat)(l:Nat)(O:World->Nat->Prop)(J:Nat->World->Prop)(K:Keeps O J w0)
  (hY:∀n k W,J k W->k<L.length->YieldAt Fence.wide n Tryz.prog l #[.int .i64 (hd T pos (L.getD k 0))] W fun e W'=>e=.returned (.bool true)/\J (k+1) W'/\dt_ O W W') (c:Nat) :
  has m c=true->∀n k W,(∃r,L.drop k=walk m c++r)->J k W →
  CallsIn Fence.wide n Tryz.prog 99 #[.pointer (some ⟨T.tb,0,none⟩),.int .i64 (hd T pos c),.func (.yield l) #[] #[]] W fun e W'=>e=.returned (.bool true)/\J (k+(walk m c).length) W'/\dt_ O W W':=by
 have hW:=hT.fits.wf;refine hW.down_ind (P:=fun c=>has m c=true->∀n k W,(∃r,L.drop k=walk m c++r)->J k W →
  CallsIn Fence.wide n Tryz.prog 99 #[.pointer (some ⟨T.tb,0,none⟩),.int .i64 (hd T pos c),.func (.yield l) #[] #[]] W fun e W'=>e=.returned (.bool true)/\J (k+(walk m c).length) W'/\dt_ O W W') (fun c ih hc n k W hr hJ=>?_) c
 have hew:=hW.walk_eq c;obtain⟨r,hr⟩:=hr;have hkL:k<L.length:=by
  rcases Nat.lt_or_ge k L.length with h|h
  ·exact h
  ·rw[List.drop_of_length_le h,hew]at hr;cases hr
 have hLk:L.getD k 0=c:=by
  have h1:(L.drop k)[0]?=some c:=by rw[hr,hew];rfl
  rw[List.getElem?_drop,Nat.add_zero]at h1;simp[List.getD,h1]
 have hfew:=hT.mem.few;have hkf:=cH_ hfew hT.fits hc;have hkh:=fun x (hx:x∈(nd m c).kids)=>bu_ hT.fits hc hx;have hlen:(walk m c).length=1+((nd m c).kids.flatMap (walk m)).length:=by rw[hew];simp;omega
 have hdr:L.drop (k+1)=(nd m c).kids.flatMap (walk m)++r:=by
  rw[<-List.drop_drop,hr,hew];rfl
 have y1:=hY (n-1) k W hJ hkL;rw[hLk]at y1;have HK:Hid (∀W',Below w0.heap.size w0 W'->Calls Tryz.prog 94 #[.pointer (some ⟨T.tb,0,none⟩),.int .i64 (hd T pos c)] W' fun e w'=>∃v,e=.returned v/\Below W'.heap.size W' w'/\eO_ T pos W'.heap.size w' v (nd m c).kids):=hi_ (fun W' hb=>j8_ T m pos c W' (hT.below hb) hc);have HIH:=hi_ ih;have HKK:=hi_ K;have HLen:=hi_ hlen;have HDr:=hi_ hdr;have HKh:=hi_ hkh;clear ih K hlen hdr hkh hew hr hY hLk hT hW;generalize hks:(nd m c).kids=ks at *;clear hks;obtain⟨fn,tmps,assign,body,hy,hR⟩:=y1;have HR:=hi_ hR;clear hR;refine callsIn_of_wp Tryz.func99 rfl trivial ?_ rfl
 simp only[Tryz.ntmps99,List.size_toArray,List.length_cons,List.length_nil,Nat.reduceAdd,Nat.reduceSub,Array.replicate_succ,Array.replicate_zero,List.push_toArray,List.append_toArray,List.nil_append,List.cons_append]
 gi_wp2
 refine⟨fun h=>(by cases h),?_⟩;refine HR.out.mono ?_;rintro e W1 ⟨rfl,hJ1,hR1⟩;have HR1:=hi_ hR1;have HJ1:=hi_ hJ1;have hb1:=HKK.out.below _ _ hJ1;have QK:=hi_ (HK.out W1 hb1);clear hR1 hJ1 hb1 HR
 gi_wp2
 refine⟨trivial,fun h=>(by cases h),?_⟩;refine(callsIn_wide.2 QK.out).mono ?_;rintro e W2 ⟨v,rfl,hb2,hown⟩;obtain⟨ao,cap,hv,hcells⟩:=hown.form;subst hv;have HJ2:=hi_ (HKK.out.go _ _ _ HJ1.out hb2);have HR2:=hi_ (HR1.out.trans (dt_.of_below hb2 (fun b hb=>HKK.out.old _ _ _ b HJ1.out hb2 hb)));have HNo2:Hid (∀g,(Value.slice ao ks.length cap).ownBlock=some g->¬O W2 g):=hi_ (fun g hg ho=>by
  have h1:=(World.ownsRow.lt hown g hg).1;have h2:=HKK.out.lt _ _ _ HJ1.out (HKK.out.old _ _ _ g HJ1.out hb2 ho)
  omega)
 have HOwn:=hi_ hown;clear hown hcells hb2 QK HR1 HJ1 HK
 gi_wp2
 gi_loopw [17] (fun v17 wr=>∃i:Nat,v17=.int .i64 (i:Nat)/\i<=ks.length/\Hid (J (k+1+((ks.take i).flatMap (walk m)).length) wr)/\Hid (dt_ O W wr)/\Hid (eO_ T pos W1.heap.size wr (.slice ao ks.length cap) ks)/\Hid (∀g,(Value.slice ao ks.length cap).ownBlock=some g->¬O wr g))
  (fun v17 _=>ks.length-(Go.RowKit.intOf v17).toNat)
 case atStart=>
  exact⟨0,rfl,Nat.zero_le _,HJ2,HR2,HOwn,HNo2⟩
 case round=>
  obtain⟨i,rfl,hi,HJ3,HR3,HO3,HN3⟩:=hrel
  rcases Nat.lt_or_ge i ks.length with hlt|hge
  ·obtain⟨ao',cap',hv,hcells⟩:=HO3.out.form
   obtain⟨g,hao,hg,hbg,hcell⟩:=hcells i ks[i] (List.getElem?_eq_getElem hlt);injection hv with e1 e2 e3
   subst e1 e3;subst hao;have hx:ks[i]?=some ks[i]:=List.getElem?_eq_getElem hlt;have hmem:ks[i]∈ks:=List.getElem_mem hlt;obtain⟨hdr',hln⟩:=h0_ (f:=walk m) HDr.out hx;have Q5:=hi_ (HIH.out ks[i] hmem (HKh.out _ hmem) (n-1) _ wr hdr' HJ3.out);rw[hln]at Q5;have hii:(i:Int)<(ks.length:Int):=by omega
   generalize ks[i]=x at *;clear hdr' hln hcells hx hmem HJ3
   gi_wp2
   refine⟨trivial,fun h=>(by cases h),?_⟩;refine Q5.out.mono ?_;rintro e W5 ⟨rfl,hJ5,hR5⟩;have HJ5:=hi_ hJ5;have HR5:=hi_ (HR3.out.trans hR5);obtain⟨o5,n5⟩:=hy_ HO3.out hR5 HN3.out;have HO5:=hi_ o5;have HN5:=hi_ n5;clear hJ5 hR5 o5 n5
   gi_wp2
   go_roundw
   case rel=>exact⟨i+1,by go_num,by omega,HJ5,HR5,HO5,HN5⟩
   case measure=>simp[Go.RowKit.intOf];omega
  ·have hie:i=ks.length:=by omega
   subst hie;have hnot:¬((ks.length:Nat):Int)<((ks.length:Nat):Int):=by omega
   have HJ6:Hid (J (k+(walk m c).length) wr):=hi_ (by
    have h1:=HJ3.out;rw[List.take_length]at h1;rw[HLen.out,<-Nat.add_assoc];exact h1)
   gi_wp2
   go_ret
   exact⟨rfl,HJ6.out,HR3.out⟩
end A
end
section
open Go.RowKit Go.Sort
namespace A
open H G
theorem kx_(k:Int)(n a d:Value)(p f l pr nx:Value)(w:World) :
  Calls Tryz.prog 85 #[.agg #[.int .i64 k,n,a,d,p,f,l,pr,nx]] w fun e w'=>e=.returned (.bool (k==3 || k==4))/\Below w.heap.size w w':=by
 have hB1:=(Below.refl w.heap.size w).alloc (nl_) (.cells #[.int .i64 k,n,a,d,p,f,l,pr,nx] 126)
 by_cases h1:k=3
 ·subst h1
  go_enter Tryz.func85,Tryz.ntmps85
  go_wp2_with fail
  go_ret
  exact⟨rfl,hB1⟩
 ·have n1:(k==3)=false:=bn_ h1
  by_cases h2:k=4
  ·subst h2
   go_enter Tryz.func85,Tryz.ntmps85
   go_wp2_with fail
   go_ret
   exact⟨rfl,hB1⟩
  ·have n2:(k==4)=false:=bn_ h2
   go_enter Tryz.func85,Tryz.ntmps85
   go_wp2_with fail
   go_ret
   exact⟨ao_ (by rw[n1,n2];rfl),hB1⟩
def bI_(z k:Int):Value:=.agg #[.int .i64 z,.int .i64 k]
theorem kw_(T:am_)(z k:Int)(w:World)(hT:al_ w T)(hz:-9223372036854775808<=z)(hz2:z<=9223372036854775807)(hp:T.ptr 0 z=none) :
  Calls Tryz.prog 38 #[.pointer (some ⟨T.tb,0,none⟩),bI_ z k] w fun e w'=>e=.returned (.int .i64 6)/\Below w.heap.size w w':=by
 have hB1:=(Below.refl w.heap.size w).alloc (nl_) (.cells #[.int .i64 z,.int .i64 k] 31);have Q1:=hi_ (fun W (hW:Below w.heap.size w W)=>lg_ T z W (hT.below hW) hz hz2 hp);unfold eo_ at Q1;unfold bI_;clear hT hp
 go_enter Tryz.func38,Tryz.ntmps38
 go_wp2_with fail
 refine(Q1.out _ hB1).mono ?_;rintro e w2 ⟨rfl,hb2⟩;have HB2:=hi_ ((hB1.trans (hb2.mono hB1.size)));have HB3:=hi_ (HB2.out.alloc HB2.out.size (.cells #[.int .i64 0,.string ⟨#[]⟩,.slice none 0 0,.string ⟨#[]⟩,.int .i64 0,.int .i64 0,.int .i64 0,.int .i64 0,.int .i64 0] 126));clear hb2 Q1;go_wp2_with fail
 go_ret
 exact⟨rfl,HB3.out⟩
def mS_(m:aa_)(i:Nat)(k:Int):Bool:=decide (0<=k) && decide (k<=(G.sizeOf m i:Nat))
theorem kv_(T:am_)(m:aa_)(pos:Nat->Nat)(i:Nat)(k:Int)(w:World)(hT:aj_ w T m pos)(hi:has m i=true)(hl:(nd m i).attrs.length<=100000)(hd_:(nd m i).data.length<=1000000) :
  Calls Tryz.prog 38 #[.pointer (some ⟨T.tb,0,none⟩),bI_ (hd T pos i) k] w fun e w'=>e=.returned (.int .i64 (if mS_ m i k=true then 0 else 2))/\Below w.heap.size w w':=by
 have hF:=hT.fits;have hB1:=(Below.refl w.heap.size w).alloc (nl_) (.cells #[.int .i64 (hd T pos i),.int .i64 k] 31);have Q1:=hi_ (fun W (hW:Below w.heap.size w W)=>node_ T m pos i W (hT.below hW) hi hl);have Q2:=hi_ (fun W (hW:Below w.heap.size w W)=>j8_ T m pos i W (hT.below hW) hi);have QC:=hi_ (fun n a d p f l pr nx W=>kx_ ((nd m i).kind:Nat) n a d p f l pr nx W);have HK:=hi_ (hF.kind i hi);have HD:=hi_ (hF.data i hi);have HZ:Hid (∀s,s=G.sizeOf m i->mS_ m i k=(decide (0<=k) && decide (k<=(s:Nat)))):=hi_ (fun s hs=>by rw[hs];rfl);have HSz:Hid (G.sizeOf m i=if 2<(nd m i).kind then(U.pts (nd m i).data).length else(nd m i).kids.length):=hi_ rfl;have hk4:(nd m i).kind<=4:=by
  rcases Nat.eq_zero_or_pos i with h0|h0
  ·rw[h0,hF.wf.doc.2.1];omega
  ·exact(hF.wf.kinds i (aR_ hi) h0).2
 have HK4:=hi_ hk4;have hkf:=cH_ hT.mem.few hF hi;have HKF:=hi_ hkf;unfold eb_ at Q1;rw[HK.out,HD.out]at Q1;unfold bI_;generalize hres:(if mS_ m i k=true then(0:Int)else 2)=res;have HRes:=hi_ hres;clear hres;generalize mS_ m i k=ok at *;generalize T.sl (pos i)=r at *;generalize hd T pos i=z at *;generalize (nd m i).kids=kl at *;generalize (nd m i).kind=kd at *;generalize (nd m i).data=dt at *;generalize (nd m i).attrs=al at *;generalize G.sizeOf m i=sz at *;have HZ1:=hi_ (HZ.out _ rfl);clear hT hF hi HK HD HZ hk4 hkf
 go_enter Tryz.func38,Tryz.ntmps38
 go_wp2_with fail
 refine(Q1.out _ hB1).mono ?_;rintro e w2 ⟨v,rfl,hb2,hr2⟩;obtain⟨bo,bcap,rfl⟩:=aw_.slice (dw_ hr2);have HB2:=hi_ (hB1.trans (hb2.mono hB1.size));have HP2:=hi_ (show Blk w.heap.size #[.int .i64 z,.int .i64 k] 31 w2 from (Blk.new w _ _).below hb2);obtain⟨hc,hf⟩:=ad_ HP2.out;have p0:w2.cell? ⟨w.heap.size,0,none⟩=some (.int .i64 z):=hc 0;have p1:w2.cell? ⟨w.heap.size,1,none⟩=some (.int .i64 k):=hc 1;have hlt2:=HP2.out.lt;clear hb2 hr2 Q1 hc hf;go_wp2_with fail
 have HB3:=hi_ (HB2.out.alloc HB2.out.size (.cells #[.int .i64 kd,.string ⟨r.name.toArray⟩,.slice bo al.length bcap,.string ⟨dt.toArray⟩,.int .i64 r.parent,.int .i64 r.first,.int .i64 r.last,.int .i64 r.prev,.int .i64 r.next] 126));refine(Q2.out _ HB3.out).mono ?_;rintro e w3 ⟨kv,rfl,hb3,ho3⟩;obtain⟨ao,cap,rfl,_⟩:=eO_.form ho3;have HB4:=bt_ HB3 hb3;have HN:=hi_ (show Blk w2.heap.size #[.int .i64 kd,.string ⟨r.name.toArray⟩,.slice bo al.length bcap,.string ⟨dt.toArray⟩,.int .i64 r.parent,.int .i64 r.first,.int .i64 r.last,.int .i64 r.prev,.int .i64 r.next] 126 w3 from (Blk.new w2 _ _).below hb3);have HP3:=hi_ ((HP2.out.alloc _).below hb3);obtain⟨hc,hf⟩:=ad_ HP3.out;have p0:w3.cell? ⟨w.heap.size,0,none⟩=some (.int .i64 z):=hc 0;have p1:w3.cell? ⟨w.heap.size,1,none⟩=some (.int .i64 k):=hc 1
 obtain⟨⟨c0,c1,c2,c3,c4,c5,c6,c7,c8⟩,_⟩:=bZ_ HN.out;have hlt3:=HN.out.lt;clear hb3 ho3 Q2 hc hf;go_wp2_with fail
 refine(QC.out _ _ _ _ _ _ _ _ w3).mono ?_;rintro e w4 ⟨rfl,hb4⟩;have HB5:=bt_ HB4 hb4;have HP4:=hi_ (HP3.out.below hb4);have HN4:=hi_ (HN.out.below hb4);obtain⟨hc,hf⟩:=ad_ HP4.out;have p0:w4.cell? ⟨w.heap.size,0,none⟩=some (.int .i64 z):=hc 0;have p1:w4.cell? ⟨w.heap.size,1,none⟩=some (.int .i64 k):=hc 1;obtain⟨⟨c0,c1,c2,c3,c4,c5,c6,c7,c8⟩,_⟩:=bZ_ HN4.out;clear hb4 QC hc hf
 by_cases hch:2<kd
 ·have hkd:kd=3\/kd=4:=by have:=HK4.out;omega
  have e1:(((kd:Nat):Int)==3 || ((kd:Nat):Int)==4)=true:=by rcases hkd with h|h<;>simp[h]
  have HSz2:Hid (sz=(U.pts dt).length):=hi_ (by rw[HSz.out,if_pos hch]);rw[e1];have QL:=hi_ (Go.Proofs.YtinphfpdfodkkaaGreatDoor.T.Len ⟨dt.toArray⟩ w4 (by show dt.toArray.size<=_;rw[List.size_toArray];exact Nat.le_trans hd_ (by omega)));rw[show(⟨dt.toArray⟩:ByteArray).data.toList=dt by simp]at QL;generalize (U.pts dt).length=n at *;clear hch hkd e1;go_wp2_with fail
  refine QL.out.mono ?_;rintro e w5 ⟨rfl,hb5⟩;have HB6:=bt_ HB5 hb5;obtain⟨hc,hf⟩:=ad_ (HP4.out.below hb5);have q0:w5.cell? ⟨w.heap.size,0,none⟩=some (.int .i64 z):=hc 0;have q1:w5.cell? ⟨w.heap.size,1,none⟩=some (.int .i64 k):=hc 1;clear hb5 hc hf p0 p1 c0 c1 c2 c3 c4 c5 c6 c7 c8
  by_cases g1:k<0
  ·have HO:Hid (ok=false):=hi_ (by rw[HZ1.out,decide_eq_false (by omega)];rfl)
   go_wp2_with fail
   go_ret
   exact⟨ay_ (a:=2) (by rw[<-HRes.out,HO.out];rfl),HB6.out⟩
  ·by_cases g2:(n:Int)<k
   ·have HO:Hid (ok=false):=hi_ (by rw[HZ1.out,HSz2.out,decide_eq_false (p:=k<=_) (by omega),Bool.and_false])
    go_wp2_with fail
    go_ret
    exact⟨ay_ (a:=2) (by rw[<-HRes.out,HO.out];rfl),HB6.out⟩
   ·have HO:Hid (ok=true):=hi_ (by rw[HZ1.out,HSz2.out,decide_eq_true (by omega),decide_eq_true (by omega)];rfl)
    go_wp2_with fail
    go_ret
    exact⟨ay_ (a:=0) (by rw[<-HRes.out,HO.out];rfl),HB6.out⟩
 ·have e1:(((kd:Nat):Int)==3 || ((kd:Nat):Int)==4)=false:=by
   have h3:¬((kd:Nat):Int)=3:=by omega
   have h4:¬((kd:Nat):Int)=4:=by omega
   simp[h3,h4]
  have HSz2:Hid (sz=kl.length):=hi_ (by rw[HSz.out,if_neg hch]);rw[e1];generalize kl.length=n at *;clear hch e1
  by_cases g1:k<0
  ·have HO:Hid (ok=false):=hi_ (by rw[HZ1.out,decide_eq_false (by omega)];rfl)
   go_wp2_with fail
   go_ret
   exact⟨ay_ (a:=2) (by rw[<-HRes.out,HO.out];rfl),HB5.out⟩
  ·by_cases g2:(n:Int)<k
   ·have HO:Hid (ok=false):=hi_ (by rw[HZ1.out,HSz2.out,decide_eq_false (p:=k<=_) (by omega),Bool.and_false])
    go_wp2_with fail
    go_ret
    exact⟨ay_ (a:=2) (by rw[<-HRes.out,HO.out];rfl),HB5.out⟩
   ·have HO:Hid (ok=true):=hi_ (by rw[HZ1.out,HSz2.out,decide_eq_true (by omega),decide_eq_true (by omega)];rfl)
    go_wp2_with fail
    go_ret
    exact⟨ay_ (a:=0) (by rw[<-HRes.out,HO.out];rfl),HB5.out⟩
end A
end
end Go.Proofs.YtinphfpdfodkkaaGreatDoor
