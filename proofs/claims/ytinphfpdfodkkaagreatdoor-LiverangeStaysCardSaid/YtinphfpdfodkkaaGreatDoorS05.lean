/- Texts. -/
import Derived.Test.YtinphfpdfodkkaaGreatDoorS01
import Derived.Lib.SliceRun
import Derived.Lib.OwnBridge
set_option linter.unusedVariables false
set_option linter.unusedSimpArgs false
set_option maxHeartbeats 8000000
set_option maxRecDepth 100000
namespace Go.Proofs.YtinphfpdfodkkaaGreatDoor
section
open Go.RowKit Go.Sort
namespace A
open H
structure ez_ where
 used:Bool
 kind:Nat
 name:List UInt8
 attrs:Value
 al:List (List UInt8×List UInt8)
 data:List UInt8
 parent:Int
 first:Int
 last:Int
 prev:Int
 next:Int
def a8_(r:ez_):List Value:=[.bool r.used,.int .i64 r.kind,.string ⟨r.name.toArray⟩,r.attrs,.string ⟨r.data.toArray⟩,.int .i64 r.parent,.int .i64 r.first,.int .i64 r.last,.int .i64 r.prev,.int .i64 r.next]
theorem bv_(r:ez_):(a8_ r).length=10:=rfl
structure am_ where
 tb:Nat
 g:Nat
 cap:Nat
 bs:Int
 st:Int
 slots:List ez_
 freeV:Value
 frees:List Nat
 live:Int
 root:Int
 B:Nat
def gO_(T:am_):Array Value:=#[.int .i64 T.bs,.int .i64 T.st,.slice (some ⟨T.g,0,none⟩) T.slots.length T.cap,T.freeV,.int .i64 T.live,.int .i64 T.root]
def aF_(l:List Nat):List Value:=l.map fun n=>.int .i64 (n:Nat)
def cd_(base:Nat)(w:World)(v:Value)(l:List Nat):Prop:=w.ownsRow base 3 1 v l.length (aF_ l)
def aj_(p:List UInt8×List UInt8):List Value:=[.string ⟨p.1.toArray⟩,.string ⟨p.2.toArray⟩]
theorem ar_(p:List UInt8×List UInt8):(aj_ p).length=2:=rfl
def aw_(w:World)(v:Value)(l:List (List UInt8×List UInt8)):Prop:=ab_ aj_ 0 142 2 w v l
theorem own_below{w w':World}{base:Nat}{e:TypeId}{size:Nat}{v:Value}{n:Nat}{xs:List Value}(h:w.ownsRow base e size v n xs)(b:Below w.heap.size w w'):w'.ownsRow base e size v n xs:=by
 refine⟨h.1,?_⟩
 rcases h.2 with hn|⟨g,cap,cur,hv,hb,hg,rest⟩
 ·exact Or.inl hn
 exact Or.inr ⟨g,cap,cur,hv,hb,(b.block g (lt_of_block hg)).trans hg,rest⟩
structure al_(w:World)(T:am_):Prop where
 blk:Blk T.tb (gO_ T) 92 w
 row:ab_ a8_ T.B 210 10 w (.slice (some ⟨T.g,0,none⟩) T.slots.length T.cap) T.slots
 few:T.slots.length<=1000000
 bb:T.B<=T.tb
 free:cd_ T.B w T.freeV T.frees
 attrs:∀r,r∈T.slots->aw_ w r.attrs r.al
theorem al_.below{w w':World}{T:am_}(h:al_ w T)(b:Below w.heap.size w w'):al_ w' T:=
 ⟨h.blk.below b,own_below h.row b,h.few,h.bb,own_below h.free b,fun r hr=>own_below (h.attrs r hr) b⟩
def am_.at_(T:am_)(h:Int):Option Nat:=match dI_ T.bs T.st h with
 |some i=>if hi:i<T.slots.length then(if T.slots[i].used=true then some i else none)else none
 |none=>none
def am_.ptr(T:am_)(o:Nat)(h:Int):Option Addr:=(T.at_ h).map fun i=>⟨T.g,i*10+o,none⟩
theorem e3_{a b:Option Addr}(h:a=b):Ending.returned (.pointer a)=Ending.returned (.pointer b):=by rw[h]
theorem find(T:am_)(h:Int)(w:World)(hT:al_ w T)(hh:-9223372036854775808<=h)(hh2:h<=9223372036854775807) :
  Calls Tryz.prog 142 #[.pointer (some ⟨T.tb,0,none⟩),.int .i64 h] w fun e w'=>e=.returned (.pointer (T.ptr 0 h))/\Below w.heap.size w w':=by
 have HT:=hi_ hT;have hlt:=hT.blk.lt;have QI:=hi_ (index T.bs T.st h w hh hh2);obtain⟨hc,hf⟩:=ae_ hT.blk;have c0:w.cell? ⟨T.tb,0,none⟩=some (.int .i64 T.bs):=hc 0;have c1:w.cell? ⟨T.tb,1,none⟩=some (.int .i64 T.st):=hc 1;have c2:w.cell? ⟨T.tb,2,none⟩=some (.slice (some ⟨T.g,0,none⟩) T.slots.length T.cap):=hc 2;have hfew:=hT.few;generalize hPT:T.ptr 0 h=PT;have HPT:=hi_ hPT;clear hT hc hf hPT
 go_enter Tryz.func142,Tryz.ntmps142
 go_wp2_with fail
 refine QI.o.mono ?_;rintro e w2 ⟨rfl,hb⟩;have HB:=hi_ hb;have HT2:=hi_ (HT.o.below hb);have hlt2:=HT2.o.blk.lt;obtain⟨hc,hf⟩:=ae_ HT2.o.blk;have d2:w2.cell? ⟨T.tb,2,none⟩=some (.slice (some ⟨T.g,0,none⟩) T.slots.length T.cap):=hc 2;clear hc hf c0 c1 c2 hb QI
 cases hs:dI_ T.bs T.st h with
 |none=>
  have hz:gy_ T.bs T.st h=-1:=by unfold gy_;rw[hs]
  have hp:T.ptr 0 h=none:=by unfold am_.ptr am_.at_;rw[hs];rfl
  rw[hz];go_wp2_with fail
  go_ret
  exact⟨e3_ (hp.symm.trans HPT.o),HB.o⟩
 |some i=>
  have hz:gy_ T.bs T.st h=(i:Int):=by unfold gy_;rw[hs]
  rw[hz]
  by_cases hi:i<T.slots.length
  ·have hiI:(i:Int)<(T.slots.length:Int):=by omega
   obtain⟨k0,_⟩:=ab_.cell bv_ HT2.o.row hi (k:=0) (by omega);have k0':w2.cell? ⟨T.g,i*10,none⟩=some (.bool T.slots[i].used):=k0;have hlg:=(ad_ HT2.o.row).1;clear k0
   cases hu:T.slots[i].used with
   |true=>
    have hp:T.ptr 0 h=some ⟨T.g,i*10,none⟩:=by unfold am_.ptr am_.at_;rw[hs];dsimp only;rw[dif_pos hi,if_pos hu];rfl
    rw[hu]at k0';go_wp2_with fail
    go_ret
    exact⟨e3_ (hp.symm.trans HPT.o),HB.o⟩
   |false=>
    have hp:T.ptr 0 h=none:=by unfold am_.ptr am_.at_;rw[hs];dsimp only;rw[dif_pos hi,if_neg (by rw[hu];exact Bool.false_ne_true)];rfl
    rw[hu]at k0';go_wp2_with fail
    go_ret
    exact⟨e3_ (hp.symm.trans HPT.o),HB.o⟩
  have hiI:¬(i:Int)<(T.slots.length:Int):=by omega
  have hp:T.ptr 0 h=none:=by unfold am_.ptr am_.at_;rw[hs];dsimp only;rw[dif_neg hi];rfl
  go_wp2_with fail
  go_ret
  exact⟨e3_ (hp.symm.trans HPT.o),HB.o⟩
theorem l2_(T:am_)(h:Int):(T.ptr 0 h=none/\T.ptr 1 h=none)\/∃i,T.ptr 0 h=some ⟨T.g,i*10,none⟩/\T.ptr 1 h=some ⟨T.g,i*10+1,none⟩:=by
 unfold am_.ptr
 cases T.at_ h with
 |none=>exact Or.inl ⟨rfl,rfl⟩
 |some i=>exact Or.inr ⟨i,rfl,rfl⟩
theorem at1(T:am_)(h:Int)(w:World)(hT:al_ w T)(hh:-9223372036854775808<=h)(hh2:h<=9223372036854775807) :
  Calls Tryz.prog 136 #[.pointer (some ⟨T.tb,0,none⟩),.int .i64 h] w fun e w'=>e=.returned (.pointer (T.ptr 1 h))/\Below w.heap.size w w':=by
 have QF:=hi_ (find T h w hT hh hh2);have HC:=hi_ (l2_ T h);clear hT;generalize T.ptr 0 h=P0 at *;generalize T.ptr 1 h=P1 at *
 go_enter Tryz.func136,Tryz.ntmps136
 go_wp2_with fail
 refine QF.o.mono ?_;rintro e w2 ⟨rfl,hb⟩
 rcases HC.o with⟨rfl,e2⟩|⟨i,rfl,e2⟩
 ·go_wp2_with fail
  go_ret
  exact⟨e3_ e2.symm,hb⟩
 go_wp2_with fail
 go_ret
 exact⟨e3_ e2.symm,hb⟩
theorem at_(T:am_)(h:Int)(w:World)(hT:al_ w T)(hh:-9223372036854775808<=h)(hh2:h<=9223372036854775807) :
  Calls Tryz.prog 83 #[.pointer (some ⟨T.tb,0,none⟩),.int .i64 h] w fun e w'=>e=.returned (.pointer (T.ptr 1 h))/\Below w.heap.size w w':=by
 have QF:=hi_ (at1 T h w hT hh hh2);clear hT;generalize T.ptr 1 h=P1 at *
 go_enter Tryz.func83,Tryz.ntmps83
 go_wp2_with fail
 refine QF.o.mono ?_;rintro e w2 ⟨rfl,hb⟩;go_wp2_with fail
 go_ret
 exact⟨rfl,hb⟩
end A
end
section
open Go.RowKit Go.Sort
namespace R
open H G A
structure b0_ where
 n:G.Node
 av:Value
 kv:Value
def ch_:Option Nat->Int
 |none=>-1
 |some p=>p
def bU_(x:b0_):List Value:=[.int .i64 x.n.kind,.string ⟨x.n.name.toArray⟩,x.av,.string ⟨x.n.data.toArray⟩,.int .i64 (ch_ x.n.parent),x.kv,.bool x.n.gone]
theorem aV_(x:b0_):(bU_ x).length=7:=rfl
structure aJ_ where
 mb:Nat
 g:Nat
 cap:Nat
 nodes:List b0_
 B:Nat
def aJ_.m(M:aJ_):aa_:=M.nodes.map (·.n)
def pb_:b0_:=⟨G.blank,.slice none 0 0,.slice none 0 0⟩
def aJ_.at_(M:aJ_)(i:Nat):b0_:=M.nodes.getD i pb_
structure ac_(w:World)(M:aJ_):Prop where
 blk:Blk M.mb #[.slice (some ⟨M.g,0,none⟩) M.nodes.length M.cap] 102 w
 row:ab_ bU_ M.B 105 7 w (.slice (some ⟨M.g,0,none⟩) M.nodes.length M.cap) M.nodes
 few:M.nodes.length<=1000000
 bb:M.B<=M.mb
 kids:∀x,x∈M.nodes->cd_ M.B w x.kv x.n.kids
 attrs:∀x,x∈M.nodes->ab_ aj_ M.B 143 2 w x.av x.n.attrs
 kapart:∀i j,i<M.nodes.length->j<M.nodes.length->i≠j->∀g,(M.at_ i).kv.ownBlock=some g->(M.at_ j).kv.ownBlock≠some g
 aapart:∀i j,i<M.nodes.length->j<M.nodes.length->i≠j->∀g,(M.at_ i).av.ownBlock=some g->(M.at_ j).av.ownBlock≠some g
section
variable {w w':World} {M:aJ_}
theorem aJ_.m_len(M:aJ_):M.m.length=M.nodes.length:=by unfold aJ_.m;simp
theorem aJ_.nd_at(M:aJ_)(i:Nat):nd M.m i=(M.at_ i).n:=by
 unfold aJ_.m aJ_.at_ nd;rw[List.getD_eq_getElem?_getD,List.getD_eq_getElem?_getD,List.getElem?_map]
 cases M.nodes[i]? with
 |none=>rfl
 |some x=>rfl
theorem aJ_.at_mem{i:Nat}(h:i<M.nodes.length):M.at_ i=M.nodes[i]/\M.at_ i∈M.nodes:=by
 have:M.at_ i=M.nodes[i]:=by unfold aJ_.at_;simp[List.getD,h]
 exact⟨this,by rw[this];exact List.getElem_mem h⟩
theorem ac_.below(h:ac_ w M)(b:Below w.heap.size w w'):ac_ w' M:=
 ⟨h.blk.below b,own_below h.row b,h.few,h.bb,fun x hx=>own_below (h.kids x hx) b,fun x hx=>own_below (h.attrs x hx) b,h.kapart,h.aapart⟩
def aJ_.foot(M:aJ_)(k:Nat):Prop:=k=M.mb\/k=M.g\/∃x∈M.nodes,x.kv.ownBlock=some k\/x.av.ownBlock=some k
theorem ac_.frame{S:Nat->Prop}(h:ac_ w M)(f:H.Frame S w w')(hn:∀k,M.foot k->¬S k):ac_ w' M:=
 ⟨h.blk.frame f (hn _ (Or.inl rfl)),ak_ h.row f (fun g hg=>hn g (Or.inr (Or.inl (by simpa[Value.ownBlock]using hg.symm)))),h.few,h.bb,
  fun x hx=>ak_ (h.kids x hx) f (fun g hg=>hn g (Or.inr (Or.inr ⟨x,hx,Or.inl hg⟩))),fun x hx=>ak_ (h.attrs x hx) f (fun g hg=>hn g (Or.inr (Or.inr ⟨x,hx,Or.inr hg⟩))),h.kapart,h.aapart⟩
theorem ac_.top(h:ac_ w M):w.cell? ⟨M.mb,0,none⟩=some (.slice (some ⟨M.g,0,none⟩) M.nodes.length M.cap)/\M.mb<w.heap.size/\M.g<w.heap.size:=
 ⟨(ae_ h.blk).1 0,h.blk.lt,(ad_ h.row).1⟩
theorem ac_.cell(h:ac_ w M){i:Nat}(hi:i<M.nodes.length) :
  w.cell? ⟨M.g,i*7,none⟩=some (.int .i64 ((nd M.m i).kind:Nat))/\w.cell? ⟨M.g,i*7+1,none⟩=some (.string ⟨(nd M.m i).name.toArray⟩)/\w.cell? ⟨M.g,i*7+2,none⟩=some (M.at_ i).av ∧
  w.cell? ⟨M.g,i*7+3,none⟩=some (.string ⟨(nd M.m i).data.toArray⟩)/\w.cell? ⟨M.g,i*7+4,none⟩=some (.int .i64 (ch_ (nd M.m i).parent))/\w.cell? ⟨M.g,i*7+5,none⟩=some (M.at_ i).kv/\w.cell? ⟨M.g,i*7+6,none⟩=some (.bool (nd M.m i).gone):=by
 have hc:=fun k (hk:k<7)=>(ab_.cell aV_ h.row hi (k:=k) hk).1;rw[M.nd_at,(aJ_.at_mem hi).1];exact⟨hc 0 (by omega),hc 1 (by omega),hc 2 (by omega),hc 3 (by omega),hc 4 (by omega),hc 5 (by omega),hc 6 (by omega)⟩
theorem ac_.kidsRow(h:ac_ w M){i:Nat}(hi:i<M.nodes.length):cd_ M.B w (M.at_ i).kv (nd M.m i).kids:=by
 rw[M.nd_at];exact h.kids _ (aJ_.at_mem hi).2
theorem ac_.attrsRow(h:ac_ w M){i:Nat}(hi:i<M.nodes.length):ab_ aj_ M.B 143 2 w (M.at_ i).av (nd M.m i).attrs:=by
 rw[M.nd_at];exact h.attrs _ (aJ_.at_mem hi).2
theorem cd_.form{base:Nat}{v:Value}{l:List Nat}(h:cd_ base w v l):∃ao cap,v=.slice ao l.length cap/\∀i x,l[i]?=some x->∃g,ao=some ⟨g,0,none⟩/\g<w.heap.size/\w.cell? ⟨g,i,none⟩=some (.int .i64 (x:Nat)):=by
 unfold cd_ at h
 rcases h.2 with⟨h1,h2⟩|⟨g,cap,cur,h1,hb,hg,hn,hm,hc,ht⟩
 ·refine⟨none,0,by rw[h1,h2],fun i x hx=>?_⟩
  rw[List.length_eq_zero_iff.1 h2]at hx
  cases hx
 refine⟨_,cap,h1,fun i x hx=>⟨g,rfl,lt_of_block hg,?_⟩⟩;have hlt:i<l.length:=by
  rcases Nat.lt_or_ge i l.length with h2|h2
  ·exact h2
  rw[List.getElem?_eq_none h2]at hx;cases hx
 rw[h1]at h;have:=((ad_ h).2.2.2 i (by rw[h.1];omega)).1;rw[this];unfold aF_;rw[List.getElem?_map,hx];rfl
end
end R
end
section
open Go.RowKit Go.Sort
namespace A
open H G
def aT_:ez_:=⟨false,0,[],.slice none 0 0,[],[],0,0,0,0,0⟩
def am_.sl(T:am_)(s:Nat):ez_:=T.slots.getD s aT_
def hd(T:am_)(pos:Nat->Nat)(i:Nat):Int:=handle T.bs T.st (pos i)
def hdO(T:am_)(pos:Nat->Nat):Option Nat->Int
 |none=>0
 |some i=>hd T pos i
def ah_(m:aa_)(i:Nat):Option Nat:=match (nd m i).parent with|none=>none|some p=>prevAt2 (nd m p).kids ((nd m p).kids.idxOf i)
 where prevAt2 (l:List Nat) (i:Nat):Option Nat:=if i=0 then none else l[i-1]?
def aq_(m:aa_)(i:Nat):Option Nat:=match (nd m i).parent with|none=>none|some p=>(nd m p).kids[(nd m p).kids.idxOf i+1]?
structure Fits(T:am_)(m:aa_)(pos:Nat->Nat):Prop where
 wf:WF m
 lt:∀i,has m i=true->pos i<T.slots.length
 used:∀i,has m i=true->(T.sl (pos i)).used=true
 kind:∀i,has m i=true->(T.sl (pos i)).kind=(nd m i).kind
 name:∀i,has m i=true->(T.sl (pos i)).name=(nd m i).name
 attrs:∀i,has m i=true->(T.sl (pos i)).al=(nd m i).attrs
 data:∀i,has m i=true->(T.sl (pos i)).data=(nd m i).data
 parent:∀i,has m i=true->(T.sl (pos i)).parent=hdO T pos (nd m i).parent
 first:∀i,has m i=true->(T.sl (pos i)).first=hdO T pos (nd m i).kids.head?
 last:∀i,has m i=true->(T.sl (pos i)).last=hdO T pos (nd m i).kids.getLast?
 prev:∀i,has m i=true->(T.sl (pos i)).prev=hdO T pos (ah_ m i)
 next:∀i,has m i=true->(T.sl (pos i)).next=hdO T pos (aq_ m i)
 inj:∀i j,has m i=true->has m j=true->pos i=pos j->i=j
 onto:∀s,s<T.slots.length->(T.sl s).used=true->∃i,has m i=true/\pos i=s
 frees:T.frees.Nodup/\∀s,s∈T.frees->s<T.slots.length/\(T.sl s).used=false
 live:T.live=(((List.range m.length).filter (has m)).length:Nat)
 root:T.root=hd T pos 0
structure ag_(w:World)(T:am_)(m:aa_)(pos:Nat->Nat):Prop where
 mem:al_ w T
 fits:Fits T m pos
section
variable {T:am_} {m:aa_} {pos:Nat->Nat}
theorem aP_(i:Nat):1<=hd T pos i:=e9_ _ _ _
theorem bF_(hT:T.slots.length<=1000000)(F:Fits T m pos){i:Nat}(hi:has m i=true):hd T pos i<=1000001000:=by
 have h1:=F.lt i hi;have h2:=c0_ T.bs;have h3:=c0_ T.st;have h4:nrm T.st*(pos i:Int)<=1000*1000000:=Int.mul_le_mul h3.2 (by omega) (by omega) (by omega);unfold hd handle;omega
theorem hm_{s:Nat}(h:s<T.slots.length):T.sl s=T.slots[s]:=by unfold am_.sl;simp[List.getD,h]
theorem at_hd(hT:T.slots.length<=1000000)(F:Fits T m pos){i:Nat}(hi:has m i=true):T.at_ (hd T pos i)=some (pos i):=by
 have h1:=F.lt i hi;have h2:=F.used i hi;rw[hm_ h1]at h2;unfold am_.at_ hd;rw[dC_ (by omega)];dsimp only;rw[dif_pos h1,if_pos h2]
theorem bM_(hT:T.slots.length<=1000000)(F:Fits T m pos){i:Nat}(hi:has m i=true)(o:Nat):T.ptr o (hd T pos i)=some ⟨T.g,pos i*10+o,none⟩:=by
 unfold am_.ptr;rw[at_hd hT F hi];rfl
theorem jO_(o:Nat):T.ptr o 0=none:=by
 unfold am_.ptr am_.at_
 cases h:dI_ T.bs T.st 0 with
 |none=>rfl
 |some i=>
  have h1:=(gS_ h).1;have h2:=e9_ T.bs T.st i;omega
theorem nT_(F:Fits T m pos){z:Int}(hz:∀i,has m i=true->hd T pos i≠z)(o:Nat):T.ptr o z=none:=by
 unfold am_.ptr am_.at_
 cases h:dI_ T.bs T.st z with
 |none=>rfl
 |some s=>
  dsimp only
  by_cases h1:s<T.slots.length
  ·rw[dif_pos h1]
   by_cases h2:T.slots[s].used=true
   ·obtain⟨i,hi,hp⟩:=F.onto s h1 (by rw[hm_ h1];exact h2)
    have:=(gS_ h).1;exact absurd (by unfold hd;rw[hp,this]) (hz i hi)
   rw[if_neg h2];rfl
  rw[dif_neg h1];rfl
theorem dJ_(F:Fits T m pos){i j:Nat}(hi:has m i=true)(hj:has m j=true)(h:hd T pos i=hd T pos j):i=j:=by
 have h3:=c0_ T.st;refine F.inj i j hi hj ?_;unfold hd handle at h;have h4:nrm T.st*(pos i:Int)=nrm T.st*(pos j:Int):=by omega
 have:=Int.eq_of_mul_eq_mul_left (by omega) h4;omega
theorem ag_.cell{w:World}(h:ag_ w T m pos){i:Nat}(hi:has m i=true){k:Nat}(hk:k<10):w.cell? ⟨T.g,pos i*10+k,none⟩=(a8_ (T.sl (pos i)))[k]?/\w.frozen? ⟨T.g,pos i*10+k,none⟩=false:=by
 have h1:=h.fits.lt i hi;rw[hm_ h1];exact ab_.cell bv_ h.mem.row h1 hk
theorem ag_.below{w w':World}(h:ag_ w T m pos)(b:Below w.heap.size w w'):ag_ w' T m pos:=⟨h.mem.below b,h.fits⟩
theorem bI_(F:Fits T m pos){i p:Nat}(hi:has m i=true)(hp:(nd m i).parent=some p):has m p=true:=by
 have:=F.wf.gone i p hp;unfold has at hi ⊢;rw[<-this];exact hi
def deep(T:am_)(m:aa_)(pos:Nat->Nat)(z:Int):Nat:=match (List.range m.length).find? (fun y=>has m y && decide (hd T pos y=z))with|some y=>depth m y|none=>0
theorem hD_(F:Fits T m pos){i:Nat}(hi:has m i=true):deep T m pos (hd T pos i)=depth m i:=by
 unfold deep
 cases h:(List.range m.length).find? (fun y=>has m y && decide (hd T pos y=hd T pos i)) with
 |none=>
  have:=List.find?_eq_none.1 h i (List.mem_range.2 (aR_ hi));simp[hi]at this
 |some y=>
  have h1:=List.find?_some h;rw[Bool.and_eq_true,decide_eq_true_eq]at h1;rw[dJ_ F h1.1 hi h1.2]
theorem ix_:deep T m pos 0=0:=by
 unfold deep
 cases h:(List.range m.length).find? (fun y=>has m y && decide (hd T pos y=0)) with
 |none=>rfl
 |some y=>
  have h1:=List.find?_some h;rw[Bool.and_eq_true,decide_eq_true_eq]at h1;have:=aP_ (T:=T) (pos:=pos) y;omega
end
def a2_(v:Value):Int:=match v with | .int _ z=>z|_=>0
theorem cp_(T:am_)(m:aa_)(pos:Nat->Nat)(i j:Nat)(w:World)(hT:ag_ w T m pos)(hi:has m i=true)(hj:has m j=true) :
  Calls Tryz.prog 40 #[.pointer (some ⟨T.tb,0,none⟩),.int .i64 (hd T pos i),.int .i64 (hd T pos j)] w fun e w'=>e=.returned (.bool (contains m i j))/\Below w.heap.size w w':=by
 have hF:=hT.fits;have hfew:=hT.mem.few;have HT:=hi_ hT;have QA:=hi_ (fun(z:Int) (h0:0<=z) (h1:z<=1000001000) W (hb:Below w.heap.size w W)=>at_ T z W (hT.below hb).mem (by omega) (by omega));have hbi:=bF_ hfew hF hi;have hbj:=bF_ hfew hF hj;have hpi:=aP_ (T:=T) (pos:=pos) i;have hpj:=aP_ (T:=T) (pos:=pos) j;have pI:=bM_ hfew hF hi 1;have pJ:=bM_ hfew hF hj 1;have Q1:=hi_ (QA.o (hd T pos i) (by omega) hbi w (Below.refl _ w));rw[pI]at Q1;have HJ0:Hd (contains m i j=contains m i j):=hi_ rfl;have HJh:=hi_ hj;clear hT
 go_enter Tryz.func40,Tryz.ntmps40
 go_wp2_with fail
 refine Q1.o.mono ?_;rintro e w1 ⟨rfl,hb1⟩;have HB1:=hi_ hb1;have Q2:=hi_ (QA.o (hd T pos j) (by omega) hbj w1 hb1);rw[pJ]at Q2;clear hb1 Q1;go_wp2_with fail
 refine Q2.o.mono ?_;rintro e w2 ⟨rfl,hb2⟩;have HB2:=bt_ HB1 hb2;clear hb2 Q2;go_wp2_with fail
 have HB0:Hd (Below w.heap.size w w2):=HB2;clear HB1
 go_loopw [2,7] (fun v2 v7 wr=>∃o:Option Nat,v2=.int .i64 (hdO T pos o)/\v7=.pointer (T.ptr 1 (hdO T pos o))/\Hd (∀y,o=some y->has m y=true)/\Hd (contains m i j=match o with|some y=>contains m i y|none=>false)/\Hd (Below w.heap.size w wr)) (fun v2 _ _=>deep T m pos (a2_ v2))
 case atStart=>exact⟨some j,rfl,by show Value.pointer _=.pointer (T.ptr 1 (hd T pos j));rw[pJ],hi_ (fun y hy=>by injection hy with hy;rw[<-hy];exact HJh.o),hi_ rfl,HB0⟩
 obtain⟨o,rfl,rfl,HH,HC,HU⟩:=hrel;clear HJ0 HB0 HJh HB2 pJ
 cases o with
 |none=>
  have e1:T.ptr 1 (hdO T pos none)=none:=jO_ 1;have HF:Hd (contains m i j=false):=HC;rw[e1];go_wp2_with fail
  go_ret
  exact⟨by rw[HF.o];rfl,HU.o⟩
 |some y=>
  have hy:=HH.o y rfl;have hTr:=HT.o.below HU.o;have e1:T.ptr 1 (hdO T pos (some y))=some ⟨T.g,pos y*10+1,none⟩:=bM_ hfew hF hy 1;have HC2:Hd (contains m i j=contains m i y):=HC;have hcell:=(hTr.cell hy (k:=5) (by omega)).1;have k5:wr.cell? ⟨T.g,pos y*10+5,none⟩=some (.int .i64 (hdO T pos (nd m y).parent)):=by
   rw[hcell,<-hF.parent y hy];rfl
  have hr:0<=hdO T pos (nd m y).parent/\hdO T pos (nd m y).parent<=1000001000:=by
   cases hp:(nd m y).parent with
   |none=>exact⟨Int.le_refl 0,by show(0:Int)<=1000001000;omega⟩
   |some p=>exact⟨by have:=aP_ (T:=T) (pos:=pos) p;show 0<=hd T pos p;omega,bF_ hfew hF (bI_ hF hy hp)⟩
  have Q3:=hi_ (QA.o (hdO T pos (nd m y).parent) hr.1 hr.2 wr HU.o);have HD:Hd (deep T m pos (hdO T pos (nd m y).parent)<deep T m pos (hd T pos y)):=hi_ (by
   rw[hD_ hF hy]
   cases hp:(nd m y).parent with
   |none=>show deep T m pos 0<_;rw[ix_];have:=hF.wf.depth_pos y;omega
   |some p=>
    show deep T m pos (hd T pos p)<_;rw[hD_ hF (bI_ hF hy hp),hF.wf.depth_step hp];omega)
  rw[e1];have hzz:∃z,z=hdO T pos (some y):=⟨_,rfl⟩;obtain⟨z,hz⟩:=hzz;rw[<-hz];have HDz:Hd (deep T m pos (hdO T pos (nd m y).parent)<deep T m pos z):=hi_ (by rw[hz];exact HD.o);clear hr hcell HD e1
  by_cases e:i=y
  ·have e2:(hd T pos i==z)=true:=by rw[hz,e];exact beq_self_eq_true _
   have HF:Hd (contains m i j=true):=hi_ (by rw[HC2.o,e];exact hF.wf.contains_self y);clear e hz;go_wp2_with fail
   go_ret
   exact⟨by rw[HF.o];rfl,HU.o⟩
  have e2:(hd T pos i==z)=false:=by rw[hz];exact bn_ (fun h=>e (dJ_ hF hi hy h))
  have HN:Hd (contains m i j=match (nd m y).parent with|some q=>contains m i q|none=>false):=hi_ (by
   rw[HC2.o]
   cases hp:(nd m y).parent with
   |none=>rw[hF.wf.contains_root hp];exact bn_ e
   |some p=>rw[hF.wf.contains_step hp,bn_ e,Bool.false_or])
  have HPh:Hd (∀q,(nd m y).parent=some q->has m q=true):=hi_ (fun q hq=>bI_ hF hy hq);generalize (nd m y).parent=po at *;clear e hz;go_wp2_with fail
  refine Q3.o.mono ?_;rintro e3 w3 ⟨rfl,hb3⟩;have HU3:=bt_ HU hb3;go_wp2_with fail
  go_roundw
  case rel=>exact⟨po,rfl,rfl,HPh,HN,HU3⟩
  exact HDz.o
end A
end
section
open Go.RowKit Go.Sort
namespace A
open H G
theorem ci_{T:am_}{m:aa_}{pos:Nat->Nat}{w wr:World}(hT:ag_ w T m pos)(hU:Below w.heap.size w wr){y:Nat}(hy:has m y=true) :
  T.ptr 1 (hdO T pos (some y))=some ⟨T.g,pos y*10+1,none⟩/\wr.cell? ⟨T.g,pos y*10+5,none⟩=some (.int .i64 (hdO T pos (nd m y).parent))/\(0<=hdO T pos (nd m y).parent/\hdO T pos (nd m y).parent<=1000001000)/\deep T m pos (hdO T pos (nd m y).parent)<deep T m pos (hdO T pos (some y))/\(∀q,(nd m y).parent=some q->has m q=true):=by
 have hF:=hT.fits;have hfew:=hT.mem.few;have hTr:=hT.below hU;refine⟨bM_ hfew hF hy 1,?_,?_,?_,fun q hq=>bI_ hF hy hq⟩
 ·rw[(hTr.cell hy (k:=5) (by omega)).1,<-hF.parent y hy];rfl
 ·cases hp:(nd m y).parent with
  |none=>exact⟨Int.le_refl 0,by show(0:Int)<=1000001000;omega⟩
  |some p=>exact⟨by have:=aP_ (T:=T) (pos:=pos) p;show 0<=hd T pos p;omega,bF_ hfew hF (bI_ hF hy hp)⟩
 show _<deep T m pos (hd T pos y);rw[hD_ hF hy]
 cases hp:(nd m y).parent with
 |none=>show deep T m pos 0<_;rw[ix_];have:=hF.wf.depth_pos y;omega
 |some p=>
  show deep T m pos (hd T pos p)<_;rw[hD_ hF (bI_ hF hy hp),hF.wf.depth_step hp];omega
theorem top_(T:am_)(m:aa_)(pos:Nat->Nat)(j:Nat)(w:World)(hT:ag_ w T m pos)(hj:has m j=true) :
  Calls Tryz.prog 30 #[.pointer (some ⟨T.tb,0,none⟩),.int .i64 (hd T pos j)] w fun e w'=>e=.returned (.int .i64 (hd T pos (top m j)))/\Below w.heap.size w w':=by
 have hF:=hT.fits;have hfew:=hT.mem.few;have HT:=hi_ hT;have QA:=hi_ (fun(z:Int) (h0:0<=z) (h1:z<=1000001000) W (hb:Below w.heap.size w W)=>at_ T z W (hT.below hb).mem (by omega) (by omega));have hbj:=bF_ hfew hF hj;have hpj:=aP_ (T:=T) (pos:=pos) j;have pJ:=bM_ hfew hF hj 1;have Q2:=hi_ (QA.o (hd T pos j) (by omega) hbj w (Below.refl _ w));rw[pJ]at Q2;have HJh:=hi_ hj;clear hT
 go_enter Tryz.func30,Tryz.ntmps30
 go_wp2_with fail
 refine Q2.o.mono ?_;rintro e w2 ⟨rfl,hb2⟩;have HB2:=hi_ hb2;clear hb2 Q2;go_wp2_with fail
 go_loopw [1,5] (fun v1 v5 wr=>∃y:Nat,v1=.int .i64 (hdO T pos (some y))/\v5=.pointer (T.ptr 1 (hdO T pos (some y)))/\Hd (has m y=true)/\Hd (top m y=top m j)/\Hd (Below w.heap.size w wr)) (fun v1 _ _=>deep T m pos (a2_ v1))
 case atStart=>exact⟨j,rfl,by show Value.pointer _=.pointer (T.ptr 1 (hd T pos j));rw[pJ],HJh,hi_ rfl,HB2⟩
 obtain⟨y,rfl,rfl,HH,HC,HU⟩:=hrel;clear HJh HB2 pJ;have hy:=HH.o;obtain⟨e1,k5,hr,hD,hPh⟩:=ci_ HT.o HU.o hy;have Q3:=hi_ (QA.o (hdO T pos (nd m y).parent) hr.1 hr.2 wr HU.o);rw[e1];obtain⟨z,hz⟩:∃z,z=hdO T pos (some y):=⟨_,rfl⟩;rw[<-hz]at hD ⊢;have HD:=hi_ hD;clear hr hD e1
 cases hp:(nd m y).parent with
 |none=>
  rw[hp]at k5;have k5':wr.cell? ⟨T.g,pos y*10+5,none⟩=some (.int .i64 0):=k5;have HF:Hd (z=hd T pos (top m j)):=hi_ (by rw[hz,<-HC.o,hF.wf.top_root hp];rfl);clear k5 hz hPh hp;go_wp2_with fail
  go_ret
  exact⟨aE_ HF.o,HU.o⟩
 |some p=>
  rw[hp]at k5 Q3 HD;have hph:=hPh p hp;have k5':wr.cell? ⟨T.g,pos y*10+5,none⟩=some (.int .i64 (hd T pos p)):=k5;have hne:¬hd T pos p=0:=by have:=aP_ (T:=T) (pos:=pos) p;omega
  have hne2:(hd T pos p==0)=false:=bn_ hne;have HN:Hd (top m p=top m j):=hi_ (by rw[<-HC.o,hF.wf.top_step hp]);have HPh:=hi_ hph;clear k5 hz hPh hp hph;go_wp2_with fail
  refine Q3.o.mono ?_;rintro e3 w3 ⟨rfl,hb3⟩;have HU3:=bt_ HU hb3;go_wp2_with fail
  go_roundw
  case rel=>exact⟨p,rfl,rfl,HPh,HN,HU3⟩
  exact HD.o
theorem dx_{l:List Nat}(hn:l.Nodup){i c:Nat}(h:l[i]?=some c):l.idxOf c=i:=by
 have h1:=dB_ (List.mem_of_getElem? h);have hi:i<l.length:=by
  rcases Nat.lt_or_ge i l.length with h2|h2
  ·exact h2
  rw[List.getElem?_eq_none h2]at h;cases h
 exact((List.getElem?_inj hi hn).1 (h.trans h1.symm)).symm
theorem by_{T:am_}{m:aa_}{pos:Nat->Nat}(F:Fits T m pos){p c:Nat}(hp:has m p=true)(hc:c∈(nd m p).kids):has m c=true:=by
 have:=F.wf.gone c p (F.wf.kid p c hc).2;unfold has at hp ⊢;rw[this];exact hp
theorem il_{T:am_}{m:aa_}{pos:Nat->Nat}(hfew:T.slots.length<=1000000)(F:Fits T m pos){o:Option Nat}(ho:∀y,o=some y->has m y=true):0<=hdO T pos o/\hdO T pos o<=1000001000:=by
 cases o with
 |none=>exact⟨Int.le_refl 0,by show(0:Int)<=1000001000;omega⟩
 |some p=>exact⟨by have:=aP_ (T:=T) (pos:=pos) p;show 0<=hd T pos p;omega,bF_ hfew F (ho p rfl)⟩
theorem cO_{T:am_}{m:aa_}{pos:Nat->Nat}(hfew:T.slots.length<=1000000)(F:Fits T m pos){p:Nat}(hp:has m p=true):(nd m p).kids.length<=1000000:=by
 have h1:((nd m p).kids.map pos).Nodup:=by
  have h2:=F.wf.nodup p;rw[List.nodup_iff_pairwise_ne]at h2 ⊢;rw[List.pairwise_map];exact List.Pairwise.imp_of_mem (fun ha hb hne e=>hne (F.inj _ _ (by_ F hp ha) (by_ F hp hb) e)) h2
 have h3:((nd m p).kids.map pos).length<=(List.range T.slots.length).length:=List.Nodup.length_le_of_subset h1 (fun x hx=>by
  obtain⟨c,hc,rfl⟩:=List.mem_map.1 hx;exact List.mem_range.2 (F.lt c (by_ F hp hc)))
 rw[List.length_map,List.length_range]at h3;omega
theorem d6_(T:am_)(m:aa_)(pos:Nat->Nat)(j p:Nat)(w:World)(hT:ag_ w T m pos)(hj:has m j=true)(hp:(nd m j).parent=some p) :
  Calls Tryz.prog 87 #[.pointer (some ⟨T.tb,0,none⟩),.int .i64 (hd T pos j)] w fun e w'=>e=.returned (.int .i64 ((nd m p).kids.idxOf j:Nat))/\Below w.heap.size w w':=by
 have hF:=hT.fits;have hfew:=hT.mem.few;have HT:=hi_ hT;have QA:=hi_ (fun(z:Int) (h0:0<=z) (h1:z<=1000001000) W (hb:Below w.heap.size w W)=>at_ T z W (hT.below hb).mem (by omega) (by omega));have hbj:=bF_ hfew hF hj;have hpj:=aP_ (T:=T) (pos:=pos) j;have pJ:=bM_ hfew hF hj 1;have Q2:=hi_ (QA.o (hd T pos j) (by omega) hbj w (Below.refl _ w));rw[pJ]at Q2;have hph:=bI_ hF hj hp;have hmem:=(hF.wf.par j p hp).2;have hlt:=List.idxOf_lt_length_of_mem hmem;have hkl:=cO_ hfew hF hph;have HK:=hi_ (fun c (hc:c∈(nd m p).kids)=>by_ hF hph hc);have HPp:=hi_ (fun c (hc:c∈(nd m p).kids)=>(hF.wf.kid p c hc).2);have HNd:=hi_ (hF.wf.nodup p);have HPv:Hd (ah_ m j=ah_.prevAt2 (nd m p).kids ((nd m p).kids.idxOf j)):=hi_ (by unfold ah_;rw[hp])
 have HPs:Hd (∀q x,(nd m p).kids[q]?=some x->ah_ m x=ah_.prevAt2 (nd m p).kids q):=hi_ (fun q x hq=>by
  have hx:=List.mem_of_getElem? hq;unfold ah_;rw[HPp.o x hx];dsimp only;rw[dx_ HNd.o hq])
 generalize (nd m p).kids=l at *;generalize hI:l.idxOf j=I at *;have c5:w.cell? ⟨T.g,pos j*10+5,none⟩=some (.int .i64 (hd T pos p)):=by
  rw[(hT.cell hj (k:=5) (by omega)).1];show some (Value.int .i64 (T.sl (pos j)).parent)=_;rw[hF.parent j hj,hp];rfl
 have c8:w.cell? ⟨T.g,pos j*10+8,none⟩=some (.int .i64 (hdO T pos (ah_ m j))):=by
  rw[(hT.cell hj (k:=8) (by omega)).1];show some (Value.int .i64 (T.sl (pos j)).prev)=_;rw[hF.prev j hj]
 have hne:¬hd T pos p=0:=by have:=aP_ (T:=T) (pos:=pos) p;omega
 have hne2:(hd T pos p==0)=false:=bn_ hne;rw[HPv.o]at c8;have hlg:=(ad_ hT.mem.row).1;clear hT hp hmem hI
 go_enter Tryz.func87,Tryz.ntmps87
 go_wp2_with fail
 refine Q2.o.mono ?_;rintro e w2 ⟨rfl,hb2⟩;have HB2:=hi_ hb2;have d5:w2.cell? ⟨T.g,pos j*10+5,none⟩=some (.int .i64 (hd T pos p)):=(hb2.cell (p:=⟨T.g,pos j*10+5,none⟩) hlg).trans c5;have d8:w2.cell? ⟨T.g,pos j*10+8,none⟩=some (.int .i64 (hdO T pos (ah_.prevAt2 l I))):=(hb2.cell (p:=⟨T.g,pos j*10+8,none⟩) hlg).trans c8;clear hb2 Q2 c5 c8;go_wp2_with fail
 go_loopw [6,7] (fun v6 v7 wr=>∃n:Nat,n<=I/\v6=.int .i64 n/\v7=.int .i64 (hdO T pos (ah_.prevAt2 l (I-n)))/\Hd (Below w.heap.size w wr)) (fun v6 _ _=>I-(a2_ v6).toNat)
 case atStart=>exact⟨0,Nat.zero_le _,rfl,rfl,HB2⟩
 obtain⟨n,hn,rfl,rfl,HU⟩:=hrel;clear HB2 d5 d8 pJ
 by_cases hz:n=I
 ·have e0:hdO T pos (ah_.prevAt2 l (I-n))=0:=by rw[hz,Nat.sub_self];rfl
  rw[e0];have HF:Hd ((n:Int)=(I:Int)):=hi_ (by rw[hz]);clear hz e0;go_wp2_with fail
  go_ret
  exact⟨aE_ HF.o,HU.o⟩
 have hq:I-n-1<l.length:=by omega
 have hx:l[I-n-1]?=some l[I-n-1]:=List.getElem?_eq_getElem hq;have hpv:ah_.prevAt2 l (I-n)=some l[I-n-1]:=by unfold ah_.prevAt2;rw[if_neg (by omega)];exact hx
 have hps:=HPs.o _ _ hx;have hxk:=HK.o _ (List.mem_of_getElem? hx);rw[hpv];generalize l[I-n-1]=x at *;have hTr:=HT.o.below HU.o;have e1:T.ptr 1 (hdO T pos (some x))=some ⟨T.g,pos x*10+1,none⟩:=bM_ hfew hF hxk 1;have k8:wr.cell? ⟨T.g,pos x*10+8,none⟩=some (.int .i64 (hdO T pos (ah_.prevAt2 l (I-n-1)))):=by
  rw[(hTr.cell hxk (k:=8) (by omega)).1];show some (Value.int .i64 (T.sl (pos x)).prev)=_;rw[hF.prev x hxk,hps]
 have hr:=il_ hfew hF (o:=some x) (fun y hy=>by injection hy with hy;rw[<-hy];exact hxk);have Q3:=hi_ (QA.o (hdO T pos (some x)) hr.1 hr.2 wr HU.o);rw[e1]at Q3;have hne3:¬hdO T pos (some x)=0:=by have:=aP_ (T:=T) (pos:=pos) x;show ¬hd T pos x=0;omega
 have hlg3:=(ad_ hTr.mem.row).1;have wn:IntKind.i64.wrap ((n:Int)+1)=(n:Int)+1:=IntWalk.i64_in _ (by omega);have HS:Hd (I-n-1=I-(n+1)):=hi_ (by omega);generalize hdO T pos (some x)=zx at *;clear hpv hps hx hxk hTr e1 hr hq;go_wp2_with fail
 refine Q3.o.mono ?_;rintro e3 w3 ⟨rfl,hb3⟩;have HU3:=bt_ HU hb3;have m8:w3.cell? ⟨T.g,pos x*10+8,none⟩=some (.int .i64 (hdO T pos (ah_.prevAt2 l (I-n-1)))):=(hb3.cell (p:=⟨T.g,pos x*10+8,none⟩) hlg3).trans k8;clear k8 hb3;go_wp2_with fail
 go_roundw
 case rel=>exact⟨n+1,by omega,congrArg (Value.int IntKind.i64) (by push_cast;omega),by rw[HS.o],HU3⟩
 show I-((n:Int)+1).toNat<I-((n:Nat):Int).toNat;omega
def iw_(m:aa_)(o:Option Nat):Nat:=match o with|some y=>depth m y|none=>0
theorem eY_{m:aa_}(W:WF m)(y:Nat):depth m y=iw_ m (nd m y).parent+1:=by
 cases hp:(nd m y).parent with
 |none=>exact W.depth_root hp
 |some p=>exact W.depth_step hp
theorem depth_(T:am_)(m:aa_)(pos:Nat->Nat)(j:Nat)(w:World)(hT:ag_ w T m pos)(hj:has m j=true) :
  Calls Tryz.prog 115 #[.pointer (some ⟨T.tb,0,none⟩),.int .i64 (hd T pos j)] w fun e w'=>e=.returned (.int .i64 (depth m j:Nat))/\Below w.heap.size w w':=by
 have hF:=hT.fits;have hfew:=hT.mem.few;have HT:=hi_ hT;have hdl:=hF.wf.depth_le j;have QA:=hi_ (fun(z:Int) (h0:0<=z) (h1:z<=1000001000) W (hb:Below w.heap.size w W)=>at_ T z W (hT.below hb).mem (by omega) (by omega));have hbj:=bF_ hfew hF hj;have hpj:=aP_ (T:=T) (pos:=pos) j;have pJ:=bM_ hfew hF hj 1;have Q2:=hi_ (QA.o (hd T pos j) (by omega) hbj w (Below.refl _ w));have HJh:=hi_ hj;clear hT;generalize hpt:T.ptr 1 (hd T pos j)=pt at Q2;have HPT:=hi_ hpt;clear hpt pJ
 go_enter Tryz.func115,Tryz.ntmps115
 go_wp2_with fail
 refine Q2.o.mono ?_;rintro e w2 ⟨rfl,hb2⟩;have HB2:=hi_ hb2;clear hb2 Q2;go_wp2_with fail
 go_loopw [5,6] (fun v5 v6 wr=>∃(k:Nat) (o:Option Nat),v5=.int .i64 (k:Nat)/\v6=.pointer (T.ptr 1 (hdO T pos o))/\Hd (∀y,o=some y->has m y=true)/\Hd (k+iw_ m o=depth m j)/\Hd (Below w.heap.size w wr)) (fun v5 _ _=>129-(a2_ v5).toNat)
 case atStart=>
  refine⟨0,some j,rfl,?_,hi_ (fun y hy=>by injection hy with hy;rw[<-hy];exact HJh.o),hi_ (by show 0+depth m j=_;omega),HB2⟩;show _=Value.pointer (T.ptr 1 (hd T pos j));rw[HPT.o]
 obtain⟨k,o,rfl,rfl,HH,HC,HU⟩:=hrel;clear HJh HB2 HPT
 cases o with
 |none=>
  have hkk:depth m j=k:=by have h:k+0=depth m j:=HC.o;omega
  have HKK:=hi_ hkk;have e1:T.ptr 1 (hdO T pos none)=none:=jO_ 1;rw[e1];clear hkk e1;go_wp2_with fail
  go_ret
  exact⟨aE_ (by rw[HKK.o]),HU.o⟩
 |some y=>
  have hy:=HH.o y rfl;obtain⟨e1,k5,hr,hD,hPh⟩:=ci_ HT.o HU.o hy;have Q3:=hi_ (QA.o (hdO T pos (nd m y).parent) hr.1 hr.2 wr HU.o);have hst:=eY_ hF.wf y;have hc2:k+depth m y=depth m j:=HC.o;have hk:k<=128:=by omega
  have HN:Hd ((k+1)+iw_ m (nd m y).parent=depth m j):=hi_ (by omega);have HP:=hi_ hPh;have HK:Hd (k<=128):=hi_ hk;rw[e1];clear hr hD e1 hst hc2 hPh hy HC;generalize (nd m y).parent=o at *;generalize hz:hdO T pos o=z at *;generalize hpp:T.ptr 1 z=pp at *;have HZ:=hi_ hz;have HPP:=hi_ hpp;clear hz hpp;go_wp2_with fail
  refine Q3.o.mono ?_;rintro e3 w3 ⟨rfl,hb3⟩;have HU3:=bt_ HU hb3;go_wp2_with fail
  go_roundw
  case rel=>
   refine⟨k+1,o,?_,?_,HP,HN,HU3⟩
   ·first|rfl|(congr 1)
   rw[HZ.o,HPP.o]
  show 129-((k:Int)+1).toNat<129-((k:Int)).toNat;have:=HK.o;omega
theorem dh_:(Tryz.prog.info? 3).map (fun i=>(i.zero,i.size,i.bytes))=some (some (.int .i64 0),1,8):=by kernel_rfl
def ih_(T:am_)(pos:Nat->Nat)(l:List Nat):List Value:=l.map fun c=>.int .i64 (hd T pos c)
def e2_(T:am_)(pos:Nat->Nat)(base:Nat)(w:World)(v:Value)(l:List Nat):Prop:=w.ownsRow base 3 1 v l.length (ih_ T pos l)
theorem kD_{m:aa_}(W:WF m){p q x:Nat}(hx:(nd m p).kids[q]?=some x):aq_ m x=(nd m p).kids[q+1]?:=by
 have h1:=List.mem_of_getElem? hx;unfold aq_;rw[(W.kid p x h1).2];dsimp only;rw[dx_ (W.nodup p) hx]
theorem kN_(T:am_)(m:aa_)(pos:Nat->Nat)(p:Nat)(w:World)(hT:ag_ w T m pos)(hp:has m p=true) :
  Calls Tryz.prog 94 #[.pointer (some ⟨T.tb,0,none⟩),.int .i64 (hd T pos p)] w fun e w'=>∃v,e=.returned v/\Below w.heap.size w w'/\e2_ T pos w.heap.size w' v (nd m p).kids:=by
 have hF:=hT.fits;have hfew:=hT.mem.few;have HT:=hi_ hT;have QA:=hi_ (fun(z:Int) (h0:0<=z) (h1:z<=1000001000) W (hb:Below w.heap.size w W)=>at_ T z W (hT.below hb).mem (by omega) (by omega));have hbj:=bF_ hfew hF hp;have hpj:=aP_ (T:=T) (pos:=pos) p;have pJ:=bM_ hfew hF hp 1;have Q2:=hi_ (QA.o (hd T pos p) (by omega) hbj w (Below.refl _ w));rw[pJ]at Q2;have hkl:=cO_ hfew hF hp;have HK:=hi_ (fun c (hc:c∈(nd m p).kids)=>by_ hF hp hc);have HNs:=hi_ (fun q x (hx:(nd m p).kids[q]?=some x)=>kD_ hF.wf hx);have c6:w.cell? ⟨T.g,pos p*10+6,none⟩=some (.int .i64 (hdO T pos (nd m p).kids[0]?)):=by
  rw[(hT.cell hp (k:=6) (by omega)).1];show some (Value.int .i64 (T.sl (pos p)).first)=_;rw[hF.first p hp,List.head?_eq_getElem?]
 generalize (nd m p).kids=l at *;have hlg:=(ad_ hT.mem.row).1;obtain⟨i0,hi0,hz0,hz1,hz2⟩:=info_parts dh_;clear hT
 go_enter Tryz.func94,Tryz.ntmps94
 go_wp2_with fail
 refine Q2.o.mono ?_;rintro e w2 ⟨rfl,hb2⟩;have HB2:=hi_ hb2;have d6:w2.cell? ⟨T.g,pos p*10+6,none⟩=some (.int .i64 (hdO T pos l[0]?)):=(hb2.cell (p:=⟨T.g,pos p*10+6,none⟩) hlg).trans c6;have HO0:Hd (e2_ T pos w.heap.size w2 (.slice none 0 0) (l.take 0)):=hi_ (World.ownsRow_nil _ _ _ _);clear hb2 Q2 c6;go_wp2_with fail
 go_loopw [6,7] (fun v6 v7 wr=>∃n:Nat,n<=l.length/\v7=.int .i64 (hdO T pos l[n]?)/\Hd (e2_ T pos w.heap.size wr v6 (l.take n))/\Hd (Below w.heap.size w wr)) (fun v6 _ _=>l.length-(match v6 with | .slice _ n _=>n|_=>0))
 case atStart=>exact⟨0,Nat.zero_le _,rfl,HO0,HB2⟩
 obtain⟨n,hn,rfl,HO,HU⟩:=hrel;clear HB2 d6 pJ HO0;have hform:∃ao cap,u6=.slice ao n cap:=by
  have h1:=HO.o;unfold e2_ at h1;rw[List.length_take,Nat.min_eq_left hn]at h1
  rcases h1.2 with⟨h1,h2⟩|⟨g,cap,cur,h1,_⟩
  ·exact⟨none,0,by rw[h1,h2]⟩
  exact⟨_,cap,h1⟩
 obtain⟨ao,cap,hv⟩:=hform;subst hv
 by_cases hz:n=l.length
 ·have e0:hdO T pos l[n]?=0:=by rw[hz,List.getElem?_eq_none (nl_)];rfl
  rw[e0];have HF:Hd (e2_ T pos w.heap.size wr (.slice ao n cap) l):=hi_ (by
   have h:=HO.o
   rwa [List.take_of_length_le (by omega)]at h)
  clear hz e0 HO;go_wp2_with fail
  go_ret
  exact⟨_,rfl,HU.o,HF.o⟩
 have hq:n<l.length:=by omega
 have hx:l[n]?=some l[n]:=List.getElem?_eq_getElem hq;have hns:=HNs.o _ _ hx;have hxk:=HK.o _ (List.mem_of_getElem? hx);have htk:l.take (n+1)=l.take n++[l[n]]:=by rw[List.take_add_one,hx];rfl
 rw[hx];generalize l[n]=x at *;have hTr:=HT.o.below HU.o;have e1:T.ptr 1 (hdO T pos (some x))=some ⟨T.g,pos x*10+1,none⟩:=bM_ hfew hF hxk 1;have hr:=il_ hfew hF (o:=some x) (fun y hy=>by injection hy with hy;rw[<-hy];exact hxk);have hne3:¬hdO T pos (some x)=0:=by have:=aP_ (T:=T) (pos:=pos) x;show ¬hd T pos x=0;omega
 have HOr:=hi_ (show wr.ownsRow w.heap.size 3 1 (.slice ao n cap) n (ih_ T pos (l.take n)) by
  have h:=HO.o;unfold e2_ at h
  rwa [List.length_take,Nat.min_eq_left hn]at h)
 have HZ:Hd (hdO T pos (some x)=hd T pos x):=hi_ rfl;have HTk:=hi_ htk;have hU:=HU.o.size;have hlgr:=(ad_ hTr.mem.row).1;generalize hzx:hdO T pos (some x)=zx at *;have k9:wr.cell? ⟨T.g,pos x*10+9,none⟩=some (.int .i64 (hdO T pos l[n+1]?)):=by
  rw[(hTr.cell hxk (k:=9) (by omega)).1];show some (Value.int .i64 (T.sl (pos x)).next)=_;rw[hF.next x hxk,hns]
 clear hx hns htk hzx HO;go_wp2_with (at_builtin;refine wpList_append_lies _ rfl _ _ 39 rfl w.heap.size 3 i0 _ 1 8 Tryz.underlying39 hi0 hz0 hz1 hz2 rfl (by decide) (.slice ao n cap) n (ih_ T pos (l.take n)) rfl (HOr.o.alloc _) ⟨wr.heap.size,0,none⟩ 1 1 [.int .i64 zx] rfl rfl ?c1 ?c2 ?c3 ?c4 ?c5 ?c6 (wr.heap.size+1) ?c7 ?_)
 case c1=>exact World.news_of_block (heap_alloc_new wr (.cells #[.int .i64 zx] 3))
 case c2=>simp[Value.oneCell']
 case c3=>omega
 case c4=>unfold maxLen;omega
 case c5=>omega
 case c6=>simp;omega
 case c7=>simp
 intro gg cap2 w5 hown5 hgrow hat5 hlt5;have HO5:Hd (e2_ T pos w.heap.size w5 (.slice (some ⟨gg,0,none⟩) (n+1) cap2) (l.take (n+1))):=hi_ (by
  unfold e2_;rw[HTk.o,List.length_append,List.length_take,Nat.min_eq_left hn];unfold ih_ at *;rw[List.map_append];have e':([x].map fun c=>Value.int .i64 (hd T pos c))=[.int .i64 zx]:=
   congrArg (fun z=>[Value.int .i64 z]) HZ.o.symm
  rw[e'];exact hown5)
 have HB5:Hd (Below w.heap.size w w5):=hi_ ((HU.o.alloc hU _).grown hgrow (by simp;omega) (fun q hq=>(HOr.o.lt q hq).1));have hTr5:=HT.o.below HB5.o;have k95:w5.cell? ⟨T.g,pos x*10+9,none⟩=some (.int .i64 (hdO T pos l[n+1]?)):=by
  rw[(hTr5.cell hxk (k:=9) (by omega)).1];have:=(hTr.cell hxk (k:=9) (by omega)).1;rw[k9]at this;exact this.symm
 have Q3:=hi_ (QA.o zx hr.1 hr.2 w5 HB5.o);rw[e1]at Q3;have hlg5:=(ad_ hTr5.mem.row).1;clear k9 hTr hTr5 hown5 hgrow hat5 HOr e1;go_wp2_with fail
 refine Q3.o.mono ?_;rintro e3 w6 ⟨rfl,hb3⟩;have HU6:=bt_ HB5 hb3;have m9:w6.cell? ⟨T.g,pos x*10+9,none⟩=some (.int .i64 (hdO T pos l[n+1]?)):=(hb3.cell (p:=⟨T.g,pos x*10+9,none⟩) hlg5).trans k95;have HO6:Hd (e2_ T pos w.heap.size w6 (.slice (some ⟨gg,0,none⟩) (n+1) cap2) (l.take (n+1))):=hi_ (by
  refine⟨HO5.o.1,?_⟩
  rcases HO5.o.2 with hn|⟨g,cap,cur,hv,hb,hgg,rest⟩
  ·exact Or.inl hn
  exact Or.inr ⟨g,cap,cur,hv,hb,(hb3.block g (lt_of_block hgg)).trans hgg,rest⟩)
 clear k95 hb3 HO5 HB5;go_wp2_with fail
 go_roundw
 case rel=>exact⟨n+1,by omega,rfl,HO6,HU6⟩
 show l.length-(n+1)<l.length-n;omega
end A
end
section
open Go.RowKit Go.Sort
namespace A
open H G
def am_.modS(T:am_)(s:Nat)(f:ez_->ez_):am_:={ T with slots:=T.slots.modify s f }
theorem c9_(T:am_)(s:Nat)(f:ez_->ez_):(T.modS s f).slots.length=T.slots.length:=by unfold am_.modS;simp
theorem sl_modS{T:am_}{s:Nat}{f:ez_->ez_}(h:s<T.slots.length)(t:Nat):(T.modS s f).sl t=if t=s then f (T.sl t)else T.sl t:=by
 unfold am_.sl am_.modS
 by_cases hj:t=s
 ·subst hj
  simp[List.getD,List.getElem?_modify,h]
 have h2:¬s=t:=fun e=>hj e.symm;simp[List.getD,List.getElem?_modify,h2,hj]
theorem d8_{T T':am_}{pos:Nat->Nat}(h1:T'.bs=T.bs)(h2:T'.st=T.st)(o:Option Nat):hdO T' pos o=hdO T pos o:=by
 cases o with
 |none=>rfl
 |some i=>unfold hdO hd;rw[h1,h2]
def Sib(T:am_)(pos:Nat->Nat)(l:List Nat):Prop:=∀q x,l[q]?=some x->(T.sl (pos x)).prev=hdO T pos (ah_.prevAt2 l q)/\(T.sl (pos x)).next=hdO T pos l[q+1]?
theorem d2_{m:aa_}(W:WF m){p q x:Nat}(hx:(nd m p).kids[q]?=some x):ah_ m x=ah_.prevAt2 (nd m p).kids q:=by
 have h1:=List.mem_of_getElem? hx;unfold ah_;rw[(W.kid p x h1).2];dsimp only;rw[dx_ (W.nodup p) hx]
theorem ep_{m:aa_}(W:WF m){p q x:Nat}(hx:(nd m p).kids[q]?=some x):aq_ m x=(nd m p).kids[q+1]?:=by
 have h1:=List.mem_of_getElem? hx;unfold aq_;rw[(W.kid p x h1).2];dsimp only;rw[dx_ (W.nodup p) hx]
section
variable {T:am_} {m:aa_} {pos:Nat->Nat}
theorem Fits.sib(F:Fits T m pos){p:Nat}(hp:has m p=true):Sib T pos (nd m p).kids:=by
 intro q x hx;have hk:=by_ F hp (List.mem_of_getElem? hx);rw[F.prev x hk,F.next x hk,d2_ F.wf hx,ep_ F.wf hx];exact⟨rfl,rfl⟩
theorem Fits.lone(F:Fits T m pos){i:Nat}(hi:has m i=true)(hp:(nd m i).parent=none):(T.sl (pos i)).prev=0/\(T.sl (pos i)).next=0:=by
 rw[F.prev i hi,F.next i hi];unfold ah_ aq_;rw[hp];exact⟨rfl,rfl⟩
theorem fk_(W:WF m)(hup:∀i p,has m i=true->(nd m i).parent=some p->has m p=true)(h1:∀p,has m p=true->Sib T pos (nd m p).kids)(h2:∀i,has m i=true->(nd m i).parent=none->(T.sl (pos i)).prev=0/\(T.sl (pos i)).next=0) :
  (∀i,has m i=true->(T.sl (pos i)).prev=hdO T pos (ah_ m i))/\(∀i,has m i=true->(T.sl (pos i)).next=hdO T pos (aq_ m i)):=by
 have h3:∀i,has m i=true->(T.sl (pos i)).prev=hdO T pos (ah_ m i)/\(T.sl (pos i)).next=hdO T pos (aq_ m i):=by
  intro i hi
  cases hp:(nd m i).parent with
  |none=>
   have:=h2 i hi hp;unfold ah_ aq_;rw[hp];exact this
  |some p=>
   have hm:=(W.par i p hp).2;have hx:=dB_ hm;rw[d2_ W hx,ep_ W hx];exact h1 p (hup i p hi hp) _ _ hx
 exact⟨fun i hi=>(h3 i hi).1,fun i hi=>(h3 i hi).2⟩
theorem j6_(W:WF m){i p:Nat}(hi:has m i=true)(hp:(nd m i).parent=some p):has m p=true:=by
 have:=W.gone i p hp;unfold has at hi ⊢;rw[<-this];exact hi
theorem bS_{A B:List Nat}{q:Nat}(h:q<=A.length):ah_.prevAt2 (A++B) q=ah_.prevAt2 A q:=by
 unfold ah_.prevAt2
 by_cases h0:q=0
 ·rw[if_pos h0,if_pos h0]
 rw[if_neg h0,if_neg h0,List.getElem?_append_left (by omega)]
theorem cZ_(A:List Nat):ah_.prevAt2 A A.length=A.getLast?:=by
 unfold ah_.prevAt2
 by_cases h0:A.length=0
 ·rw[if_pos h0,List.length_eq_zero_iff.1 h0];rfl
 rw[if_neg h0,List.getLast?_eq_getElem?]
structure nx_(T T':am_)(m:aa_)(pos:Nat->Nat)(h p:Nat):Prop where
 bs:T'.bs=T.bs
 st:T'.st=T.st
 len:T'.slots.length=T.slots.length
 frees:T'.frees=T.frees
 live:T'.live=T.live
 root:T'.root=T.root
 used:∀s,(T'.sl s).used=(T.sl s).used
 same:∀i,has m i=true->(T'.sl (pos i)).kind=(T.sl (pos i)).kind/\(T'.sl (pos i)).name=(T.sl (pos i)).name/\(T'.sl (pos i)).al=(T.sl (pos i)).al/\(T'.sl (pos i)).data=(T.sl (pos i)).data
 parent:∀i,has m i=true->(T'.sl (pos i)).parent=if i=h then 0 else(T.sl (pos i)).parent
 first:∀i,has m i=true->(T'.sl (pos i)).first=if i=p/\ah_ m h=none then hdO T pos (aq_ m h) else(T.sl (pos i)).first
 last:∀i,has m i=true->(T'.sl (pos i)).last=if i=p/\aq_ m h=none then hdO T pos (ah_ m h) else(T.sl (pos i)).last
 prev:∀i,has m i=true->(T'.sl (pos i)).prev=if i=h then 0 else if aq_ m h=some i then hdO T pos (ah_ m h) else(T.sl (pos i)).prev
 next:∀i,has m i=true->(T'.sl (pos i)).next=if i=h then 0 else if ah_ m h=some i then hdO T pos (aq_ m h) else(T.sl (pos i)).next
theorem mJ_{h p:Nat}(h1:h<m.length)(h2:p<m.length)(i:Nat):has (cut m h p) i=has m i:=by
 unfold has;rw[bT_ h1 h2]
theorem Fits.cut{T':am_}{h p:Nat}(F:Fits T m pos)(hh:has m h=true)(hp:(nd m h).parent=some p)(C:nx_ T T' m pos h p):Fits T' (G.cut m h p) pos:=by
 have W:=F.wf;have hhl:=aR_ hh;have hph:=j6_ W hh hp;have hpl:=aR_ hph;have hm:=(W.par h p hp).2;have hd_:=W.nodup p;have e0:∀o,hdO T' pos o=hdO T pos o:=d8_ C.bs C.st;have hhas:=mJ_ (m:=m) hhl hpl;obtain⟨A,B,hAB⟩:=List.append_of_mem hm;have hnA:h∉A:=fun hA=>by
  rw[hAB]at hd_;have:=(List.nodup_append.1 hd_).2.2 h hA h (by simp);exact this rfl
 have her:(nd m p).kids.erase h=A++B:=by
  rw[hAB,List.erase_append_right _ hnA,List.erase_cons_head]
 have hat:(nd m p).kids[A.length]?=some h:=by rw[hAB];simp
 have hprev:ah_ m h=A.getLast?:=by rw[d2_ W hat,hAB,bS_ (nl_),cZ_]
 have hnext:aq_ m h=B.head?:=by rw[ep_ W hat,hAB,List.getElem?_append_right (by omega),List.head?_eq_getElem?];simp
 have hWc:=W.cut hp;have hkids:∀j,(nd (G.cut m h p) j).kids=if j=p then A++B else(nd m j).kids:=by
  intro j;rw[bT_ hhl hpl];dsimp only
  by_cases e:j=p
  ·rw[if_pos e,if_pos e,e,her]
  rw[if_neg e,if_neg e]
 have hpar:∀j,(nd (G.cut m h p) j).parent=if j=h then none else(nd m j).parent:=by
  intro j;rw[bT_ hhl hpl]
 have hsib:∀j,has (G.cut m h p) j=true->Sib T' pos (nd (G.cut m h p) j).kids:=by
  intro j hj;rw[hhas]at hj;have hS:=F.sib hj;intro q x hx;rw[e0,e0]
  by_cases e:j=p
  ·subst e
   rw[hkids,if_pos rfl]at hx ⊢;have hxk:x∈(nd m j).kids:=by
    rw[hAB]
    rcases List.mem_append.1 (List.mem_of_getElem? hx)with h1|h1
    ·exact List.mem_append_left _ h1
    exact List.mem_append_right _ (List.mem_cons_of_mem _ h1)
   have hxh:=by_ F hj hxk;have hxne:x≠h:=by
    rintro rfl
    rcases List.mem_append.1 (List.mem_of_getElem? hx)with h1|h1
    ·exact hnA h1
    rw[hAB]at hd_;have:=(List.nodup_append.1 hd_).2.1;rw[List.nodup_cons]at this;exact this.1 h1
   rw[C.prev x hxh,C.next x hxh,if_neg hxne,if_neg hxne,hprev,hnext];rw[hAB]at hS hd_
   rcases Nat.lt_or_ge q A.length with hq|hq
   ·have hxA:A[q]?=some x:=by rwa [List.getElem?_append_left hq]at hx
    have hx0:(A++h :: B)[q]?=some x:=by rw[List.getElem?_append_left hq];exact hxA
    obtain⟨s1,s2⟩:=hS q x hx0;have hxB:B.head?≠some x:=by
     intro hb;have hb2:x∈B:=List.mem_of_mem_head? hb;exact(List.nodup_append.1 hd_).2.2 x (List.mem_of_getElem? hxA) x (List.mem_cons_of_mem _ hb2) rfl
    rw[if_neg hxB,s1,s2];refine⟨by rw[bS_ (Nat.le_of_lt hq),bS_ (Nat.le_of_lt hq)],?_⟩
    by_cases hl:q+1=A.length
    ·have:A.getLast?=some x:=by rw[List.getLast?_eq_getElem?,<-hxA];congr 1;omega
     rw[if_pos this,List.getElem?_append_right (by omega),List.head?_eq_getElem?]
     congr 2;omega
    have:¬A.getLast?=some x:=by
     intro e2;rw[List.getLast?_eq_getElem?]at e2;have hAn:A.Nodup:=(List.nodup_append.1 hd_).1;have h3:=(List.getElem?_inj hq hAn).1 (hxA.trans e2.symm);omega
    rw[if_neg this,List.getElem?_append_left (by omega),List.getElem?_append_left (by omega)]
   have hxB:B[q-A.length]?=some x:=by rwa [List.getElem?_append_right hq]at hx
   have hx0:(A++h :: B)[q+1]?=some x:=by
    rw[List.getElem?_append_right (by omega),show q+1-A.length=(q-A.length)+1 by omega,List.getElem?_cons_succ];exact hxB
   obtain⟨s1,s2⟩:=hS _ x hx0;have hBn:B.Nodup:=(List.nodup_cons.1 (List.nodup_append.1 hd_).2.1).2;have hxA:¬A.getLast?=some x:=by
    intro hb;have hb2:x∈A:=List.mem_of_mem_getLast? hb;exact(List.nodup_append.1 hd_).2.2 x hb2 x (List.mem_cons_of_mem _ (List.mem_of_getElem? hxB)) rfl
   rw[if_neg hxA,s1,s2];constructor
   ·by_cases h0:q=A.length
    ·have hb:B.head?=some x:=by rw[List.head?_eq_getElem?,<-hxB,h0,Nat.sub_self]
     rw[if_pos hb,h0,bS_ (nl_),cZ_]
    have hqB:q-A.length<B.length:=by
     rcases Nat.lt_or_ge (q-A.length) B.length with h1|h1
     ·exact h1
     rw[List.getElem?_eq_none h1]at hxB;cases hxB
    have hb:¬B.head?=some x:=by
     intro e2;rw[List.head?_eq_getElem?]at e2;have h3:=(List.getElem?_inj (by omega) hBn).1 (e2.trans hxB.symm);omega
    rw[if_neg hb]
    congr 1
    unfold ah_.prevAt2;rw[if_neg (by omega),if_neg (by omega),List.getElem?_append_right (by omega),List.getElem?_append_right (by omega),show q+1-1-A.length=(q-1-A.length)+1 by omega,List.getElem?_cons_succ]
   congr 1
   rw[List.getElem?_append_right (by omega),List.getElem?_append_right (by omega),show q+1+1-A.length=(q+1-A.length)+1 by omega,List.getElem?_cons_succ]
  rw[hkids,if_neg e]at hx ⊢;have hxk:=List.mem_of_getElem? hx;have hxh:=by_ F hj hxk;have hxp:=(W.kid j x hxk).2;have hxne:x≠h:=by
   rintro rfl;rw[hp]at hxp;injection hxp with hxp
   exact e hxp.symm
  have hno:∀y,y∈(nd m p).kids->y≠x:=by
   rintro y hy rfl;have:=(W.kid p y hy).2;rw[hxp]at this;injection this with this
   exact e this
  have n1:¬aq_ m h=some x:=fun e2=>hno x (by rw[hnext]at e2;rw[hAB];exact List.mem_append_right _ (List.mem_cons_of_mem _ (List.mem_of_mem_head? e2))) rfl;have n2:¬ah_ m h=some x:=fun e2=>hno x (by rw[hprev]at e2;rw[hAB];exact List.mem_append_left _ (List.mem_of_mem_getLast? e2)) rfl;rw[C.prev x hxh,C.next x hxh,if_neg hxne,if_neg hxne,if_neg n1,if_neg n2];exact hS q x hx
 have hlone:∀i,has (G.cut m h p) i=true->(nd (G.cut m h p) i).parent=none->(T'.sl (pos i)).prev=0/\(T'.sl (pos i)).next=0:=by
  intro i hi hn;rw[hhas]at hi;rw[hpar]at hn;rw[C.prev i hi,C.next i hi]
  by_cases e:i=h
  ·rw[if_pos e,if_pos e];exact⟨rfl,rfl⟩
  rw[if_neg e]at hn;rw[if_neg e,if_neg e];have hnk:∀y,y∈(nd m p).kids->y≠i:=by
   rintro y hy rfl;have:=(W.kid p y hy).2;rw[hn]at this;cases this
  have n1:¬aq_ m h=some i:=fun e2=>hnk i (by rw[hnext]at e2;rw[hAB];exact List.mem_append_right _ (List.mem_cons_of_mem _ (List.mem_of_mem_head? e2))) rfl;have n2:¬ah_ m h=some i:=fun e2=>hnk i (by rw[hprev]at e2;rw[hAB];exact List.mem_append_left _ (List.mem_of_mem_getLast? e2)) rfl;rw[if_neg n1,if_neg n2];exact F.lone hi hn
 have hpn:=fk_ (T:=T') (pos:=pos) hWc (fun i q hi hq=>j6_ hWc hi hq) hsib hlone;refine { wf:=hWc,lt:=?_,used:=?_,kind:=?_,name:=?_,attrs:=?_,data:=?_,parent:=?_,first:=?_,last:=?_,prev:=hpn.1,next:=hpn.2,inj:=?_,onto:=?_,frees:=?_,live:=?_,root:=?_ }
 ·intro i hi;rw[C.len];exact F.lt i (by rwa [hhas]at hi)
 ·intro i hi;rw[C.used];exact F.used i (by rwa [hhas]at hi)
 ·intro i hi;rw[hhas]at hi;rw[(C.same i hi).1,F.kind i hi,bT_ hhl hpl]
 ·intro i hi;rw[hhas]at hi;rw[(C.same i hi).2.1,F.name i hi,bT_ hhl hpl]
 ·intro i hi;rw[hhas]at hi;rw[(C.same i hi).2.2.1,F.attrs i hi,bT_ hhl hpl]
 ·intro i hi;rw[hhas]at hi;rw[(C.same i hi).2.2.2,F.data i hi,bT_ hhl hpl]
 ·intro i hi;rw[hhas]at hi
  rw[e0,C.parent i hi,hpar]
  by_cases e:i=h
  ·rw[if_pos e,if_pos e];rfl
  rw[if_neg e,if_neg e];exact F.parent i hi
 ·intro i hi;rw[hhas]at hi
  rw[e0,C.first i hi,hkids,hprev,hnext]
  by_cases e:i=p
  ·subst e
   rw[if_pos rfl]
   cases A with
   |nil=>rw[if_pos ⟨rfl,rfl⟩];rfl
   |cons a A'=>rw[if_neg (by simp),F.first i hi,hAB];rfl
  rw[if_neg e,if_neg (fun h=>e h.1)];exact F.first i hi
 ·intro i hi;rw[hhas]at hi
  rw[e0,C.last i hi,hkids,hprev,hnext]
  by_cases e:i=p
  ·subst e
   rw[if_pos rfl]
   cases B with
   |nil=>rw[if_pos ⟨rfl,rfl⟩,List.append_nil]
   |cons b B'=>
    rw[if_neg (by simp),F.last i hi,hAB,List.getLast?_append,List.getLast?_append]
    congr 1
  rw[if_neg e,if_neg (fun h=>e h.1)];exact F.last i hi
 ·intro i j hi hj;rw[hhas]at hi hj;exact F.inj i j hi hj
 ·intro s hs hu
  rw[C.len]at hs;rw[C.used]at hu;obtain⟨i,hi,hp⟩:=F.onto s hs hu;exact⟨i,by rw[hhas];exact hi,hp⟩
 ·rw[C.frees,C.len]
  exact⟨F.frees.1,fun s hs=>by rw[C.used];exact F.frees.2 s hs⟩
 ·rw[C.live,F.live,show(G.cut m h p).length=m.length by unfold G.cut;simp]
  congr 2
  exact List.filter_congr (fun x _=>(hhas x).symm)
 rw[C.root,F.root];unfold hd;rw[C.bs,C.st]
end
end A
end
section
open Go.RowKit Go.Sort
namespace R
open H G A
theorem has_out{m:aa_}{i:Nat}(h:m.length<=i):has m i=false:=by unfold has;rw[c1_ h];rfl
theorem hv_(M:aJ_)(i:Nat)(w:World)(h:ac_ w M):Calls Tryz.prog 14 #[.pointer (some ⟨M.mb,0,none⟩),.int .i64 i] w fun e w'=>e=.returned (.bool (has M.m i))/\w=w':=by
 obtain⟨c0,l0,l1⟩:=h.top
 by_cases hi:i<M.nodes.length
 ·obtain⟨_,_,_,_,_,_,k6⟩:=h.cell hi
  have n1:(i:Int)<(M.nodes.length:Int):=by omega
  have n0:(0:Int)<=(i:Int):=by omega
  have HR:Hd (has M.m i = !(nd M.m i).gone):=hi_ rfl;generalize has M.m i=R at *;generalize (nd M.m i).gone=gn at *;clear h hi
  go_enter Tryz.func14,Tryz.ntmps14
  go_wp2_with fail
  go_ret
  exact⟨ap_ (by rw[HR.o]),rfl⟩
 have HR:Hd (has M.m i=false):=hi_ (has_out (by rw[M.m_len];omega));have n1:¬(i:Int)<(M.nodes.length:Int):=by omega
 have n0:(0:Int)<=(i:Int):=by omega
 generalize has M.m i=R at *;clear h hi
 go_enter Tryz.func14,Tryz.ntmps14
 go_wp2_with fail
 go_ret
 exact⟨ap_ (by rw[HR.o]),rfl⟩
theorem ml_(M:aJ_)(a b:Nat)(w:World)(h:ac_ w M)(W:WF M.m)(hb:b<M.nodes.length):Calls Tryz.prog 80 #[.pointer (some ⟨M.mb,0,none⟩),.int .i64 a,.int .i64 b] w fun e w'=>e=.returned (.bool (contains M.m a b))/\w=w':=by
 obtain⟨c0,l0,l1⟩:=h.top;have HP:=hi_ (fun y (hy:y<M.nodes.length)=>(h.cell hy).2.2.2.2.1);have hlen:=M.m_len;have hfew:=h.few;generalize ht:contains M.m a b=t at *;have HTt:=hi_ ht;have HI:=hi_ hb;clear h ht hb
 go_enter Tryz.func80,Tryz.ntmps80
 go_wp2_with fail
 go_loopw [2] (fun v2 wr=>∃o:Option Nat,v2=.int .i64 (ch_ o)/\wr=w/\Hd (∀y,o=some y->y<M.nodes.length)/\Hd (t=match o with|some y=>contains M.m a y|none=>false)) (fun v2 _=>if a2_ v2<0 then 0 else depth M.m (a2_ v2).toNat)
 case atStart=>exact⟨some b,rfl,rfl,hi_ (fun y hy=>by injection hy with hy;rw[<-hy];exact HI.o),hi_ HTt.o.symm⟩
 obtain⟨o,rfl,rfl,HO,HE⟩:=hrel;clear HTt HI
 cases o with
 |none=>
  have HF:Hd (t=false):=HE;have e0:ch_ none=-1:=rfl;rw[e0];clear e0;go_wp2_with fail
  go_ret
  exact⟨ap_ HF.o.symm,rfl⟩
 |some y=>
  have hy:=HO.o y rfl;have k4:=HP.o y hy;have n1:(y:Int)<(M.nodes.length:Int):=by omega
  have n0:(0:Int)<=(y:Int):=by omega
  have HE1:Hd (t=contains M.m a y):=HE;have e0:ch_ (some y)=(y:Int):=rfl;rw[e0];clear e0
  by_cases e:a=y
  ·have z1:((a:Int)==(y:Int))=true:=by rw[e];exact beq_self_eq_true _
   have HF:Hd (t=true):=hi_ (by rw[HE1.o,e];exact W.contains_self y);have z2:(a:Int)=(y:Int):=by omega
   clear e hy;go_wp2_with fail
   go_ret
   exact⟨ap_ HF.o.symm,rfl⟩
  have z1:((a:Int)==(y:Int))=false:=bn_ (by omega);have z2:¬(a:Int)=(y:Int):=by omega
  have HN:Hd (t=match (nd M.m y).parent with|some q=>contains M.m a q|none=>false):=hi_ (by
   rw[HE1.o]
   cases hp:(nd M.m y).parent with
   |none=>rw[W.contains_root hp];exact bn_ e
   |some p=>rw[W.contains_step hp,bn_ e,Bool.false_or])
  have HPh:Hd (∀q,(nd M.m y).parent=some q->q<M.nodes.length):=hi_ (fun q hq=>by rw[<-hlen];exact(W.lt hq).2);have HD:Hd ((if ch_ (nd M.m y).parent<0 then 0 else depth M.m (ch_ (nd M.m y).parent).toNat)<(if ((y:Nat):Int)<0 then 0 else depth M.m ((y:Nat):Int).toNat)):=hi_ (by
   rw[if_neg (by omega:¬((y:Nat):Int)<0),Int.toNat_natCast]
   cases hp:(nd M.m y).parent with
   |none=>rw[if_pos (by show(-1:Int)<0;omega)];exact W.depth_pos y
   |some p=>
    rw[if_neg (by show ¬((p:Nat):Int)<0;omega),show(ch_ (some p)).toNat=p from Int.toNat_natCast p,W.depth_step hp]
    omega)
  generalize (nd M.m y).parent=po at *;clear e hy;go_wp2_with fail
  go_roundw
  case rel=>exact⟨po,rfl,trivial,HPh,HN⟩
  exact HD.o
theorem mDepth(M:aJ_)(b:Nat)(w:World)(h:ac_ w M)(W:WF M.m)(hb:b<M.nodes.length):Calls Tryz.prog 120 #[.pointer (some ⟨M.mb,0,none⟩),.int .i64 b] w fun e w'=>e=.returned (.int .i64 (depth M.m b:Nat))/\w=w':=by
 obtain⟨c0,l0,l1⟩:=h.top;have HP:=hi_ (fun y (hy:y<M.nodes.length)=>(h.cell hy).2.2.2.2.1);have hlen:=M.m_len;have hfew:=h.few;have hdl:=W.depth_le b;generalize ht:depth M.m b=t at *;have HTt:=hi_ ht;have HI:=hi_ hb;clear h ht hb
 go_enter Tryz.func120,Tryz.ntmps120
 go_wp2_with fail
 go_loopw [1,5] (fun v1 v5 wr=>∃(o:Option Nat) (k:Nat),v1=.int .i64 (ch_ o)/\v5=.int .i64 k/\wr=w/\Hd (∀y,o=some y->y<M.nodes.length)/\k+iw_ M.m o=t) (fun _ v5 _=>129-(a2_ v5).toNat)
 case atStart=>exact⟨some b,0,rfl,rfl,rfl,hi_ (fun y hy=>by injection hy with hy;rw[<-hy];exact HI.o),by show 0+depth M.m b=t;rw[HTt.o];omega⟩
 obtain⟨o,k,rfl,rfl,rfl,HO,hE⟩:=hrel;clear HTt HI
 cases o with
 |none=>
  have HF:Hd (k=t):=hi_ hE;have e0:ch_ none=-1:=rfl;rw[e0];clear e0 hE;go_wp2_with fail
  go_ret
  exact⟨aE_ (congrArg (fun n:Nat=>(n:Int)) HF.o),rfl⟩
 |some y=>
  have hy:=HO.o y rfl;have k4:=HP.o y hy;have n1:(y:Int)<(M.nodes.length:Int):=by omega
  have n0:(0:Int)<=(y:Int):=by omega
  have hE1:k+depth M.m y=t:=hE;have hdy:=W.depth_pos y;have hst:=eY_ W y;have hk:k<=128:=by omega
  have HN:Hd (k+1+iw_ M.m (nd M.m y).parent=t):=hi_ (by omega);have HK:Hd (k<=128):=hi_ hk;have wk:IntKind.i64.wrap ((k:Int)+1)=(k:Int)+1:=IntWalk.i64_in _ (by omega);have e0:ch_ (some y)=(y:Int):=rfl;rw[e0];have HPh:Hd (∀q,(nd M.m y).parent=some q->q<M.nodes.length):=hi_ (fun q hq=>by rw[<-hlen];exact(W.lt hq).2);generalize (nd M.m y).parent=po at *;clear e0 hE hE1 hst hdy hy;go_wp2_with fail
  go_roundw
  case rel=>exact⟨po,k+1,rfl,by first|rfl|(congr 1),trivial,HPh,HN.o⟩
  have:=HK.o;show 129-((k:Int)+1).toNat<129-((k:Nat):Int).toNat;omega
def atI(l:List Nat)(i:Int):Int:=if i<0 then -1 else match l[i.toNat]? with|some x=>(x:Int)|none=>-1
theorem mAt(v:Value)(l:List Nat)(base:Nat)(i:Int)(w:World)(h:cd_ base w v l):Calls Tryz.prog 122 #[v,.int .i64 i] w fun e w'=>e=.returned (.int .i64 (atI l i))/\w=w':=by
 obtain⟨ao,cap,rfl,hc⟩:=cd_.form h;have HR:Hd (atI l i=if i<0 then -1 else match l[i.toNat]? with|some x=>(x:Int)|none=>-1):=hi_ rfl;generalize atI l i=R at *
 by_cases h0:i<0
 ·have HF:Hd (R=-1):=hi_ (by rw[HR.o,if_pos h0])
  clear h hc
  go_enter Tryz.func122,Tryz.ntmps122
  go_wp2_with fail
  go_ret
  exact⟨aE_ HF.o.symm,rfl⟩
 have hR1:=HR.o;rw[if_neg h0]at hR1
 cases hx:l[i.toNat]? with
 |none=>
  rw[hx]at hR1;have hle:=List.getElem?_eq_none_iff.1 hx;have n1:(l.length:Int)<=i:=by omega
  have HF:Hd (R=-1):=hi_ hR1;clear h hc hR1 hx hle
  go_enter Tryz.func122,Tryz.ntmps122
  go_wp2_with fail
  go_ret
  exact⟨aE_ HF.o.symm,rfl⟩
 |some x=>
  rw[hx]at hR1;have hlt:i.toNat<l.length:=by
   rcases Nat.lt_or_ge i.toNat l.length with h2|h2
   ·exact h2
   rw[List.getElem?_eq_none h2]at hx;cases hx
  obtain⟨g,rfl,hg,hcell⟩:=hc _ _ hx;have n1:¬(l.length:Int)<=i:=by omega
  have n2:i<(l.length:Int):=by omega
  have n3:(0:Int)<=i:=by omega
  have HF:Hd (R=(x:Int)):=hi_ hR1;clear h hc hR1 hx hlt
  go_enter Tryz.func122,Tryz.ntmps122
  go_wp2_with fail
  go_ret
  exact⟨aE_ HF.o.symm,rfl⟩
end R
end
section
open Go.RowKit Go.Sort
namespace A
open H G
section
variable {T:am_} {m:aa_} {pos:Nat->Nat}
structure nr_(T T':am_)(m:aa_)(pos:Nat->Nat)(h p:Nat)(bef aft:Option Nat):Prop where
 bs:T'.bs=T.bs
 st:T'.st=T.st
 len:T'.slots.length=T.slots.length
 frees:T'.frees=T.frees
 live:T'.live=T.live
 root:T'.root=T.root
 used:∀s,(T'.sl s).used=(T.sl s).used
 same:∀i,has m i=true->(T'.sl (pos i)).kind=(T.sl (pos i)).kind/\(T'.sl (pos i)).name=(T.sl (pos i)).name/\(T'.sl (pos i)).al=(T.sl (pos i)).al/\(T'.sl (pos i)).data=(T.sl (pos i)).data
 parent:∀i,has m i=true->(T'.sl (pos i)).parent=if i=h then hd T pos p else(T.sl (pos i)).parent
 first:∀i,has m i=true->(T'.sl (pos i)).first=if i=p/\bef=none then hd T pos h else(T.sl (pos i)).first
 last:∀i,has m i=true->(T'.sl (pos i)).last=if i=p/\aft=none then hd T pos h else(T.sl (pos i)).last
 prev:∀i,has m i=true->(T'.sl (pos i)).prev=if i=h then hdO T pos bef else if aft=some i then hd T pos h else(T.sl (pos i)).prev
 next:∀i,has m i=true->(T'.sl (pos i)).next=if i=h then hdO T pos aft else if bef=some i then hd T pos h else(T.sl (pos i)).next
theorem mH_{h p k:Nat}(h1:h<m.length)(h2:p<m.length)(i:Nat):has (put m p h k) i=has m i:=by
 unfold has;rw[bC_ h1 h2]
theorem Fits.put{T':am_}{h p k:Nat}(F:Fits T m pos)(hh:has m h=true)(hph:has m p=true)(hr:(nd m h).parent=none)(hne:h≠p)(hk:k<=(nd m p).kids.length)(hWc:WF (G.put m p h k))
  (C:nr_ T T' m pos h p (ah_.prevAt2 (nd m p).kids k) (nd m p).kids[k]?):Fits T' (G.put m p h k) pos:=by
 have W:=F.wf;have hhl:=aR_ hh;have hpl:=aR_ hph;have hd_:=W.nodup p;have e0:∀o,hdO T' pos o=hdO T pos o:=d8_ C.bs C.st;have hhas:=mH_ (m:=m) (k:=k) hhl hpl;have hnot:∀j,h∉(nd m j).kids:=fun j hj=>by
  have:=(W.kid j h hj).2;rw[hr]at this;cases this
 obtain⟨A,B,hAB,hAl⟩:∃A B,(nd m p).kids=A++B/\A.length=k:=⟨_,_,(List.take_append_drop k _).symm,by rw[List.length_take];omega⟩;have hbef:ah_.prevAt2 (nd m p).kids k=A.getLast?:=by rw[hAB,<-hAl,bS_ (nl_),cZ_]
 have haft:(nd m p).kids[k]?=B.head?:=by rw[hAB,<-hAl,List.getElem?_append_right (by omega),List.head?_eq_getElem?,Nat.sub_self]
 rw[hbef,haft]at C;have hins:(nd m p).kids.take k++h :: (nd m p).kids.drop k=A++h :: B:=by
  rw[hAB,<-hAl,List.take_left,List.drop_left]
 have hkids:∀j,(nd (G.put m p h k) j).kids=if j=p then A++h :: B else(nd m j).kids:=by
  intro j;rw[bC_ hhl hpl];dsimp only
  by_cases e:j=p
  ·rw[if_pos e,if_pos e,e,hins]
  rw[if_neg e,if_neg e]
 have hpar:∀j,(nd (G.put m p h k) j).parent=if j=h then some p else(nd m j).parent:=by
  intro j;rw[bC_ hhl hpl]
 have hnA:h∉A:=fun hA=>hnot p (by rw[hAB];exact List.mem_append_left _ hA);have hnB:h∉B:=fun hA=>hnot p (by rw[hAB];exact List.mem_append_right _ hA);have hAn:A.Nodup:=by rw[hAB]at hd_;exact(List.nodup_append.1 hd_).1
 have hBn:B.Nodup:=by rw[hAB]at hd_;exact(List.nodup_append.1 hd_).2.1
 have hdis:∀x,x∈A->x∈B->False:=fun x h1 h2=>by rw[hAB]at hd_;exact(List.nodup_append.1 hd_).2.2 x h1 x h2 rfl
 have hsib:∀j,has (G.put m p h k) j=true->Sib T' pos (nd (G.put m p h k) j).kids:=by
  intro j hj;rw[hhas]at hj;have hS:=F.sib hj;intro q x hx;rw[e0,e0]
  by_cases e:j=p
  ·subst e
   rw[hkids,if_pos rfl]at hx ⊢;rw[hAB]at hS
   rcases Nat.lt_trichotomy q A.length with hq|hq|hq
   ·have hxA:A[q]?=some x:=by rwa [List.getElem?_append_left hq]at hx
    have hmA:=List.mem_of_getElem? hxA;have hxh:=by_ F hj (by rw[hAB];exact List.mem_append_left _ hmA);have hxne:x≠h:=by rintro rfl;exact hnA hmA
    obtain⟨s1,s2⟩:=hS q x (by rw[List.getElem?_append_left hq];exact hxA);have hxB:B.head?≠some x:=fun hb=>hdis x hmA (List.mem_of_mem_head? hb);rw[C.prev x hxh,C.next x hxh,if_neg hxne,if_neg hxne,if_neg hxB,s1,s2];refine⟨by rw[bS_ (Nat.le_of_lt hq),bS_ (Nat.le_of_lt hq)],?_⟩
    by_cases hl:q+1=A.length
    ·have:A.getLast?=some x:=by rw[List.getLast?_eq_getElem?,<-hxA];congr 1;omega
     rw[if_pos this,List.getElem?_append_right (by omega),hl,Nat.sub_self];rfl
    have:¬A.getLast?=some x:=by
     intro e2;rw[List.getLast?_eq_getElem?]at e2;have h3:=(List.getElem?_inj hq hAn).1 (hxA.trans e2.symm);omega
    rw[if_neg this,List.getElem?_append_left (by omega),List.getElem?_append_left (by omega)]
   ·have hxh:x=h:=by
     rw[hq,List.getElem?_append_right (nl_),Nat.sub_self]at hx;injection hx with hx;exact hx.symm
    subst hxh;rw[C.prev x hh,C.next x hh,if_pos rfl,if_pos rfl];refine⟨?_,?_⟩
    ·rw[hq,bS_ (nl_),cZ_]
    rw[List.getElem?_append_right (by omega),show q+1-A.length=0+1 by omega,List.getElem?_cons_succ,List.head?_eq_getElem?]
   have hxB:B[q-1-A.length]?=some x:=by
    rw[List.getElem?_append_right (by omega),show q-A.length=(q-1-A.length)+1 by omega,List.getElem?_cons_succ]at hx;exact hx
   have hmB:=List.mem_of_getElem? hxB;have hxh:=by_ F hj (by rw[hAB];exact List.mem_append_right _ hmB);have hxne:x≠h:=by rintro rfl;exact hnB hmB
   have hx0:(A++B)[q-1]?=some x:=by
    rw[List.getElem?_append_right (by omega)];exact hxB
   obtain⟨s1,s2⟩:=hS _ x hx0;have hxA:¬A.getLast?=some x:=fun hb=>hdis x (List.mem_of_mem_getLast? hb) hmB;rw[C.prev x hxh,C.next x hxh,if_neg hxne,if_neg hxne,if_neg hxA,s1,s2];have hqB:q-1-A.length<B.length:=by
    rcases Nat.lt_or_ge (q-1-A.length) B.length with h1|h1
    ·exact h1
    rw[List.getElem?_eq_none h1]at hxB;cases hxB
   constructor
   ·by_cases h0:q=A.length+1
    ·have hb:B.head?=some x:=by rw[List.head?_eq_getElem?,<-hxB];congr 1;omega
     rw[if_pos hb];unfold ah_.prevAt2;rw[if_neg (by omega),h0,List.getElem?_append_right (by omega),show A.length+1-1-A.length=0 by omega];rfl
    have hb:¬B.head?=some x:=by
     intro e2;rw[List.head?_eq_getElem?]at e2;have h3:=(List.getElem?_inj (by omega) hBn).1 (e2.trans hxB.symm);omega
    rw[if_neg hb]
    congr 1
    unfold ah_.prevAt2;rw[if_neg (by omega),if_neg (by omega),List.getElem?_append_right (by omega),List.getElem?_append_right (by omega),show q-1-A.length=(q-1-1-A.length)+1 by omega,List.getElem?_cons_succ]
   congr 1
   rw[List.getElem?_append_right (by omega),List.getElem?_append_right (by omega),show q+1-A.length=(q-1+1-A.length)+1 by omega,List.getElem?_cons_succ]
  rw[hkids,if_neg e]at hx ⊢;have hxk:=List.mem_of_getElem? hx;have hxh:=by_ F hj hxk;have hxp:=(W.kid j x hxk).2;have hxne:x≠h:=by
   rintro rfl;exact hnot j hxk
  have hno:∀y,y∈(nd m p).kids->y≠x:=by
   rintro y hy rfl;have:=(W.kid p y hy).2;rw[hxp]at this;injection this with this
   exact e this
  have n1:¬B.head?=some x:=fun e2=>hno x (by rw[hAB];exact List.mem_append_right _ (List.mem_of_mem_head? e2)) rfl;have n2:¬A.getLast?=some x:=fun e2=>hno x (by rw[hAB];exact List.mem_append_left _ (List.mem_of_mem_getLast? e2)) rfl;rw[C.prev x hxh,C.next x hxh,if_neg hxne,if_neg hxne,if_neg n1,if_neg n2];exact hS q x hx
 have hlone:∀i,has (G.put m p h k) i=true->(nd (G.put m p h k) i).parent=none->(T'.sl (pos i)).prev=0/\(T'.sl (pos i)).next=0:=by
  intro i hi hn;rw[hhas]at hi;rw[hpar]at hn;rw[C.prev i hi,C.next i hi]
  by_cases e:i=h
  ·rw[if_pos e]at hn;cases hn
  rw[if_neg e]at hn;rw[if_neg e,if_neg e];have hnk:∀y,y∈(nd m p).kids->y≠i:=by
   rintro y hy rfl;have:=(W.kid p y hy).2;rw[hn]at this;cases this
  have n1:¬B.head?=some i:=fun e2=>hnk i (by rw[hAB];exact List.mem_append_right _ (List.mem_of_mem_head? e2)) rfl;have n2:¬A.getLast?=some i:=fun e2=>hnk i (by rw[hAB];exact List.mem_append_left _ (List.mem_of_mem_getLast? e2)) rfl;rw[if_neg n1,if_neg n2];exact F.lone hi hn
 have hpn:=fk_ (T:=T') (pos:=pos) hWc (fun i q hi hq=>j6_ hWc hi hq) hsib hlone;refine { wf:=hWc,lt:=?_,used:=?_,kind:=?_,name:=?_,attrs:=?_,data:=?_,parent:=?_,first:=?_,last:=?_,prev:=hpn.1,next:=hpn.2,inj:=?_,onto:=?_,frees:=?_,live:=?_,root:=?_ }
 ·intro i hi;rw[C.len];exact F.lt i (by rwa [hhas]at hi)
 ·intro i hi;rw[C.used];exact F.used i (by rwa [hhas]at hi)
 ·intro i hi;rw[hhas]at hi;rw[(C.same i hi).1,F.kind i hi,bC_ hhl hpl]
 ·intro i hi;rw[hhas]at hi;rw[(C.same i hi).2.1,F.name i hi,bC_ hhl hpl]
 ·intro i hi;rw[hhas]at hi;rw[(C.same i hi).2.2.1,F.attrs i hi,bC_ hhl hpl]
 ·intro i hi;rw[hhas]at hi;rw[(C.same i hi).2.2.2,F.data i hi,bC_ hhl hpl]
 ·intro i hi;rw[hhas]at hi
  rw[e0,C.parent i hi,hpar]
  by_cases e:i=h
  ·rw[if_pos e,if_pos e];rfl
  rw[if_neg e,if_neg e];exact F.parent i hi
 ·intro i hi;rw[hhas]at hi
  rw[e0,C.first i hi,hkids]
  by_cases e:i=p
  ·subst e
   rw[if_pos rfl]
   cases A with
   |nil=>rw[if_pos ⟨rfl,rfl⟩];rfl
   |cons a A'=>rw[if_neg (by simp),F.first i hi,hAB];rfl
  rw[if_neg e,if_neg (fun h=>e h.1)];exact F.first i hi
 ·intro i hi;rw[hhas]at hi
  rw[e0,C.last i hi,hkids]
  by_cases e:i=p
  ·subst e
   rw[if_pos rfl]
   cases B with
   |nil=>rw[if_pos ⟨rfl,rfl⟩,List.getLast?_append];rfl
   |cons b B'=>
    rw[if_neg (by simp),F.last i hi,hAB,List.getLast?_append,List.getLast?_append]
    congr 1
  rw[if_neg e,if_neg (fun h=>e h.1)];exact F.last i hi
 ·intro i j hi hj;rw[hhas]at hi hj;exact F.inj i j hi hj
 ·intro s hs hu
  rw[C.len]at hs;rw[C.used]at hu;obtain⟨i,hi,hp⟩:=F.onto s hs hu;exact⟨i,by rw[hhas];exact hi,hp⟩
 ·rw[C.frees,C.len]
  exact⟨F.frees.1,fun s hs=>by rw[C.used];exact F.frees.2 s hs⟩
 ·rw[C.live,F.live,show(G.put m p h k).length=m.length by unfold G.put;simp]
  congr 2
  exact List.filter_congr (fun x _=>(hhas x).symm)
 rw[C.root,F.root];unfold hd;rw[C.bs,C.st]
end
end A
end
section
open Go.RowKit Go.Sort
namespace A
open H G
theorem hy_:(Tryz.prog.info? 142).map (fun i=>(i.zero,i.size,i.bytes))=some (some (.agg #[.string ⟨#[]⟩,.string ⟨#[]⟩]),2,32):=by kernel_rfl
theorem aw_.form{w:World}{v:Value}{l:List (List UInt8×List UInt8)}(h:aw_ w v l):(v=.slice none 0 0/\l=[])\/∃g cap,v=.slice (some ⟨g,0,none⟩) l.length cap/\g<w.heap.size:=by
 unfold aw_ ab_ at h
 rcases h.2 with⟨h1,h2⟩|⟨g,cap,cur,h1,hb,hg,_⟩
 ·exact Or.inl ⟨h1,List.length_eq_zero_iff.1 h2⟩
 exact Or.inr ⟨g,cap,h1,lt_of_block hg⟩
theorem cw_{l:List (List UInt8×List UInt8)}:∀u∈l.flatMap aj_,u.oneCell'=true:=by
 intro u hu;obtain⟨p,_,hp⟩:=List.mem_flatMap.1 hu;unfold aj_ at hp
 rcases List.mem_cons.1 hp with rfl|hp
 ·rfl
 rcases List.mem_cons.1 hp with rfl|hp
 ·rfl
 cases hp
theorem dH_(v:Value)(l:List (List UInt8×List UInt8))(w:World)(h:aw_ w v l)(hl:l.length<=100000) :
  Calls Tryz.prog 101 #[v] w fun e w'=>∃v',e=.returned v'/\ab_ aj_ w.heap.size 142 2 w' v' l/\Below w.heap.size w w':=by
 obtain⟨i0,hi0,hz0,hz1,hz2⟩:=info_parts hy_;have q124:∀(w:World) (a:Option Addr) (n c n' c':Nat),(binOp .eql 124 (.slice a n c) (.slice none n' c')).run Tryz.prog w=.ok (.bool a.isNone) w:=fun w a n c n' c'=>Lib.run_eql_slice_nil w _ _ a n c n' c' Tryz.underlying124
 rcases h.form with⟨rfl,rfl⟩|⟨g,cap,rfl,hlt⟩
 ·go_enter Tryz.func101,Tryz.ntmps101
  go_wp2_with fail
  go_ret
  exact⟨_,rfl,World.ownsRow_nil _ _ _ _,br_⟩
 have HC:=hi_ (fun j u (hu:(l.flatMap aj_)[j]?=some u)=>(show w.cell? ⟨g,j,none⟩=some u from by
  have hj:j<(l.flatMap aj_).length:=by
   rcases Nat.lt_or_ge j (l.flatMap aj_).length with h2|h2
   ·exact h2
   rw[List.getElem?_eq_none h2]at hu;cases hu
  rw[((ad_ h).2.2.2 j hj).1,hu]))
 have HLn:=hi_ (bY_ ar_ l);have HOn:=hi_ (cw_ (l:=l));unfold ab_;generalize l.flatMap aj_=xs at *;generalize hn:l.length=n at *;clear h hn
 go_enter Tryz.func101,Tryz.ntmps101
 go_wp2_with (at_builtin;refine wpList_append_own _ rfl _ _ 124 rfl w.heap.size 142 i0 _ 2 32 Tryz.underlying124 hi0 hz0 hz1 hz2 rfl (by decide) _ _ _ rfl (World.ownsRow_made w #[] 0 (nl_) (Nat.zero_le _) rfl) ⟨g,0,none⟩ n cap xs rfl ?c1 ?c2 ?c3 ?c4 ?c5 ?c6 ?_)
 case c1=>exact HLn.o
 case c2=>
  intro j u hj;have e:(⟨g,0,none⟩:Addr).add j=⟨g,j,none⟩:=by unfold Addr.add;split<;>simp_all
  rw[e];exact Lib.cell?_alloc_some _ (HC.o j u hj)
 case c3=>exact HOn.o
 case c4=>unfold maxLen;omega
 case c5=>omega
 case c6=>simp
 intro v' w1 hown hgrow hnil;go_wp2_with fail
 go_ret
 refine⟨v',rfl,by simpa using hown,?_⟩;exact((Below.refl _ w).alloc (nl_) _).grown hgrow (by simp) (by intro k hk;simp[Value.ownBlock]at hk;omega)
theorem nf_(w:World):Calls Tryz.prog 101 #[.slice none 0 0] w fun e w'=>e=.returned (.slice none 0 0)/\w=w':=by
 have q124:∀(w:World) (a:Option Addr) (n c n' c':Nat),(binOp .eql 124 (.slice a n c) (.slice none n' c')).run Tryz.prog w=.ok (.bool a.isNone) w:=fun w a n c n' c'=>Lib.run_eql_slice_nil w _ _ a n c n' c' Tryz.underlying124
 go_enter Tryz.func101,Tryz.ntmps101
 go_wp2_with fail
 go_ret
 exact⟨rfl,rfl⟩
section
variable {w w0:World} {g:Nat} {t:TypeId} {cs:Array Value}
def set9(w:World)(g:Nat)(b0 b1 b2 b3 b4 b5 b6 b7 b8:Value):World:=((((((((w.setCell ⟨g,0,none⟩ b0).setCell ⟨g,1,none⟩ b1).setCell ⟨g,2,none⟩ b2).setCell ⟨g,3,none⟩ b3).setCell ⟨g,4,none⟩ b4).setCell ⟨g,5,none⟩ b5).setCell ⟨g,6,none⟩ b6).setCell ⟨g,7,none⟩ b7).setCell ⟨g,8,none⟩ b8
theorem Blk.set9{a0 a1 a2 a3 a4 a5 a6 a7 a8:Value}(h:Blk g #[a0,a1,a2,a3,a4,a5,a6,a7,a8] t w)(b0 b1 b2 b3 b4 b5 b6 b7 b8:Value):Blk g #[b0,b1,b2,b3,b4,b5,b6,b7,b8] t (A.set9 w g b0 b1 b2 b3 b4 b5 b6 b7 b8):=
 by
 have h9:=((((((((h.set 0 b0).set 1 b1).set 2 b2).set 3 b3).set 4 b4).set 5 b5).set 6 b6).set 7 b7).set 8 b8;simp only[List.setIfInBounds_toArray,List.set_cons_zero,List.set_cons_succ]at h9;exact h9
theorem eb_{B:Nat}(h:Below B w0 w)(hg:B<=g)(b0 b1 b2 b3 b4 b5 b6 b7 b8:Value):Below B w0 (set9 w g b0 b1 b2 b3 b4 b5 b6 b7 b8):=
 a0_ (a0_ (a0_ (a0_ (a0_ (a0_ (a0_ (a0_ (a0_ h hg) hg) hg) hg) hg) hg) hg) hg) hg
theorem b2_{a0 a1 a2 a3 a4 a5 a6 a7 a8:Value}(h:Blk g #[a0,a1,a2,a3,a4,a5,a6,a7,a8] t w) :
  (w.cell? ⟨g,0,none⟩=some a0/\w.cell? ⟨g,1,none⟩=some a1/\w.cell? ⟨g,2,none⟩=some a2/\w.cell? ⟨g,3,none⟩=some a3/\w.cell? ⟨g,4,none⟩=some a4/\w.cell? ⟨g,5,none⟩=some a5/\w.cell? ⟨g,6,none⟩=some a6/\w.cell? ⟨g,7,none⟩=some a7/\w.cell? ⟨g,8,none⟩=some a8) ∧
  (w.frozen? ⟨g,0,none⟩=false/\w.frozen? ⟨g,1,none⟩=false/\w.frozen? ⟨g,2,none⟩=false/\w.frozen? ⟨g,3,none⟩=false/\w.frozen? ⟨g,4,none⟩=false/\w.frozen? ⟨g,5,none⟩=false/\w.frozen? ⟨g,6,none⟩=false/\w.frozen? ⟨g,7,none⟩=false/\w.frozen? ⟨g,8,none⟩=false):=by
 obtain⟨hc,hf⟩:=ae_ h;exact⟨⟨hc 0,hc 1,hc 2,hc 3,hc 4,hc 5,hc 6,hc 7,hc 8⟩,⟨hf 0 (by show 0<9;omega),hf 1 (by show 1<9;omega),hf 2 (by show 2<9;omega),hf 3 (by show 3<9;omega),hf 4 (by show 4<9;omega),hf 5 (by show 5<9;omega),hf 6 (by show 6<9;omega),hf 7 (by show 7<9;omega),hf 8 (by show 8<9;omega)⟩⟩
end
theorem aw_.slice{w:World}{v:Value}{l:List (List UInt8×List UInt8)}(h:aw_ w v l):∃ao cap,v=.slice ao l.length cap:=by
 rcases h.form with⟨rfl,rfl⟩|⟨g,cap,rfl,_⟩
 ·exact⟨none,0,rfl⟩
 exact⟨_,cap,rfl⟩
def dF_(r:ez_)(v:Value):Value:=.agg #[.int .i64 r.kind,.string ⟨r.name.toArray⟩,v,.string ⟨r.data.toArray⟩,.int .i64 r.parent,.int .i64 r.first,.int .i64 r.last,.int .i64 r.prev,.int .i64 r.next]
theorem ag_.attrs{T:am_}{m:aa_}{pos:Nat->Nat}{w:World}(hT:ag_ w T m pos){i:Nat}(hi:has m i=true):aw_ w (T.sl (pos i)).attrs (T.sl (pos i)).al:=by
 have h1:=hT.fits.lt i hi;rw[hm_ h1];exact hT.mem.attrs _ (List.getElem_mem h1)
theorem get_(T:am_)(m:aa_)(pos:Nat->Nat)(i:Nat)(w:World)(hT:ag_ w T m pos)(hi:has m i=true) :
  Calls Tryz.prog 100 #[.pointer (some ⟨T.tb,0,none⟩),.int .i64 (hd T pos i)] w fun e w'=>e=.returned (.tuple #[dF_ (T.sl (pos i)) (T.sl (pos i)).attrs,.bool true])/\Below w.heap.size w w':=by
 have hF:=hT.fits;have hfew:=hT.mem.few;have hb:=bF_ hfew hF hi;have hp:=aP_ (T:=T) (pos:=pos) i;have pI:=bM_ hfew hF hi 0;have hB1:=(Below.refl w.heap.size w).alloc (nl_) (.cells #[.int .i64 0,.string ⟨#[]⟩,.slice none 0 0,.string ⟨#[]⟩,.int .i64 0,.int .i64 0,.int .i64 0,.int .i64 0,.int .i64 0] 126);have Q1:=hi_ (fun W (hW:Below w.heap.size w W)=>find T (hd T pos i) W (hT.below hW).mem (by omega) (by omega));rw[pI]at Q1;have HC:=hi_ (fun W (hW:Below w.heap.size w W) k (hk:k<10)=>((hT.below hW).cell hi hk).1);have hlg:=(ad_ hT.mem.row).1;obtain⟨ao,acap,hat⟩:=(hT.attrs hi).slice;unfold dF_;generalize T.sl (pos i)=r at *;generalize r.al.length=an at *;generalize hd T pos i=z at *;clear hT pI
 go_enter Tryz.func100,Tryz.ntmps100
 go_wp2_with fail
 refine(Q1.o _ hB1).mono ?_;rintro e w2 ⟨rfl,hb2⟩;have HB2:=hi_ (hB1.trans (hb2.mono hB1.size));have c1:=HC.o w2 HB2.o 1 (by omega);have c2:=HC.o w2 HB2.o 2 (by omega);have c3:=HC.o w2 HB2.o 3 (by omega);have c4:=HC.o w2 HB2.o 4 (by omega);have c5:=HC.o w2 HB2.o 5 (by omega);have c6:=HC.o w2 HB2.o 6 (by omega);have c7:=HC.o w2 HB2.o 7 (by omega);have c8:=HC.o w2 HB2.o 8 (by omega);have c9:=HC.o w2 HB2.o 9 (by omega);simp only[a8_,List.getElem?_cons_succ,List.getElem?_cons_zero]at c1 c2 c3 c4 c5 c6 c7 c8 c9;rw[hat]at c3;have HA:=hi_ hat;clear hat;have hb0:Blk w.heap.size #[.int .i64 0,.string ⟨#[]⟩,.slice none 0 0,.string ⟨#[]⟩,.int .i64 0,.int .i64 0,.int .i64 0,.int .i64 0,.int .i64 0] 126 w2:=(Blk.new w _ _).below hb2;have HB0:=hi_ hb0
 obtain⟨⟨k0,k1,k2,k3,k4,k5,k6,k7,k8⟩,⟨f0,f1,f2,f3,f4,f5,f6,f7,f8⟩⟩:=b2_ hb0;clear hb2 hb0;go_wp2_with fail
 have h9:=Blk.set9 HB0.o (.int .i64 r.kind) (.string ⟨r.name.toArray⟩) (.slice ao an acap) (.string ⟨r.data.toArray⟩) (.int .i64 r.parent) (.int .i64 r.first) (.int .i64 r.last) (.int .i64 r.prev) (.int .i64 r.next);have hb9:=eb_ HB2.o (nl_) (.int .i64 r.kind) (.string ⟨r.name.toArray⟩) (.slice ao an acap) (.string ⟨r.data.toArray⟩) (.int .i64 r.parent) (.int .i64 r.first) (.int .i64 r.last) (.int .i64 r.prev) (.int .i64 r.next);obtain⟨⟨l0,l1,l2,l3,l4,l5,l6,l7,l8⟩,_⟩:=b2_ h9;change bodyPost _ _ _ _ _ (set9 w2 w.heap.size (.int .i64 r.kind) (.string ⟨r.name.toArray⟩) (.slice ao an acap) (.string ⟨r.data.toArray⟩) (.int .i64 r.parent) (.int .i64 r.first) (.int .i64 r.last) (.int .i64 r.prev) (.int .i64 r.next))
 generalize set9 w2 w.heap.size (.int .i64 r.kind) (.string ⟨r.name.toArray⟩) (.slice ao an acap) (.string ⟨r.data.toArray⟩) (.int .i64 r.parent) (.int .i64 r.first) (.int .i64 r.last) (.int .i64 r.prev) (.int .i64 r.next)=W9 at *;refine bodyPost_ret (v:=.tuple #[.agg #[.int .i64 r.kind,.string ⟨r.name.toArray⟩,.slice ao an acap,.string ⟨r.data.toArray⟩,.int .i64 r.parent,.int .i64 r.first,.int .i64 r.last,.int .i64 r.prev,.int .i64 r.next],.bool true]) (by simp[results,Tryz.results100,go_sem,l0,l1,l2,l3,l4,l5,l6,l7,l8]) rfl ⟨by rw[HA.o],hb9⟩
end A
end
section
open Go.RowKit Go.Sort
namespace A
open H G
theorem path_(T:am_)(m:aa_)(pos:Nat->Nat)(j:Nat)(w:World)(hT:ag_ w T m pos)(hj:has m j=true) :
  Calls Tryz.prog 97 #[.pointer (some ⟨T.tb,0,none⟩),.int .i64 (hd T pos j)] w fun e w'=>∃v,e=.returned v/\Below w.heap.size w w'/\cd_ w.heap.size w' v (pidx m j):=by
 have hF:=hT.fits;have hfew:=hT.mem.few;have HT:=hi_ hT;have hdl:=hF.wf.depth_le j;have QA:=hi_ (fun(z:Int) (h0:0<=z) (h1:z<=1000001000) W (hb:Below w.heap.size w W)=>at_ T z W (hT.below hb).mem (by omega) (by omega));have QI:=hi_ (fun(y p:Nat) (hy:has m y=true) (hp:(nd m y).parent=some p) W (hb:Below w.heap.size w W)=>d6_ T m pos y p W (hT.below hb) hy hp);have hbj:=bF_ hfew hF hj;have hpj:=aP_ (T:=T) (pos:=pos) j;have Q2:=hi_ (QA.o (hd T pos j) (by omega) hbj w (Below.refl _ w));have HJh:=hi_ hj;clear hT;generalize hpt:T.ptr 1 (hd T pos j)=pt at Q2;have HPT:=hi_ hpt;clear hpt;obtain⟨i0,hi0,hz0,hz1,hz2⟩:=info_parts dh_
 go_enter Tryz.func97,Tryz.ntmps97
 go_wp2_with fail
 refine Q2.o.mono ?_;rintro e w2 ⟨rfl,hb2⟩;have HB2:=hi_ hb2;clear hb2 Q2;go_wp2_with fail
 go_loopw [1,5,6] (fun v1 v5 v6 wr=>∃(y:Nat) (d:List Nat),v1=.int .i64 (hd T pos y)/\v6=.pointer (T.ptr 1 (hd T pos y))/\Hd (has m y=true)/\Hd (pidx m j=pidx m y++d.reverse)/\Hd (d.length+depth m y=depth m j)/\Hd (Below w.heap.size w wr)/\Hd (cd_ w.heap.size wr v5 d)) (fun v1 _ _ _=>deep T m pos (a2_ v1))
 case atStart=>
  refine⟨j,[],rfl,by rw[HPT.o],HJh,hi_ (by simp),hi_ (by simp),HB2,hi_ ?_⟩;exact World.ownsRow_nil _ _ _ _
 obtain⟨y,d,rfl,rfl,HH,HC,HL,HU,HO⟩:=hrel;clear HJh HB2 HPT;have hy:=HH.o;obtain⟨e1,k5,hr,hD,hPh⟩:=ci_ HT.o HU.o hy;have e2:T.ptr 1 (hd T pos y)=some ⟨T.g,pos y*10+1,none⟩:=e1;have hdp:=hF.wf.depth_pos y;have hl2:d.length<=128:=by have:=HL.o;omega
 have HD2:Hd (d.length<=128):=hi_ hl2;have hform:∃ao cap,u5=.slice ao d.length cap:=by
  rcases HO.o.2 with⟨h1,h2⟩|⟨g,cap,cur,h1,_⟩
  ·exact⟨none,0,by rw[h1,h2]⟩
  exact⟨_,cap,h1⟩
 obtain⟨ao,cap,rfl⟩:=hform;rw[e2];clear e1 e2
 cases hp:(nd m y).parent with
 |none=>
  rw[hp]at k5;have k5':wr.cell? ⟨T.g,pos y*10+5,none⟩=some (.int .i64 0):=k5;have HE:Hd (pidx m j=d.reverse):=hi_ (by rw[HC.o,ba_ hp];rfl);have hzz:aF_ d=(d.map fun n:Nat=>(n:Int)).map (Value.int .i64):=by unfold aF_;simp
  have QR:Hd (Calls Tryz.prog 141 #[.slice ao d.length cap] wr fun e w'=>e=.returned (.tuple #[])/\Below w.heap.size w w'/\cd_ w.heap.size w' (.slice ao d.length cap) d.reverse):=hi_ (by
   have ho:=HO.o;unfold cd_ at ho
   by_cases hv:Value.slice ao d.length cap=.slice none 0 0
   ·have h0:d=[]:=by injection hv with _ h _;exact List.length_eq_zero_iff.1 h
    subst h0;refine(Tryz.slices_Reverse_int_empty ao cap wr).mono ?_;rintro e w' ⟨rfl,rfl⟩;exact⟨rfl,HU.o,ho⟩
   rw[hzz]at ho;obtain⟨g,cap',hv',hb,hg,hn,hm,hl,hH⟩:=Go.Lib.holds_of_ownsRow ho hv;injection hv' with h1 _ h3
   subst h1;subst h3;have h:=Tryz.slices_Reverse_int g 0 cap (d.map fun n:Nat=>(n:Int)) wr hH (by simp;omega);rw[List.length_map]at h;refine h.mono ?_;rintro e w' ⟨rfl,n,rfl⟩;refine⟨rfl,Go.Lib.below_putRow HU.o hb,?_⟩;have h2:=Go.Lib.ownsRow_putRow (q:=n) ho (ys:=(d.map fun n:Nat=>(n:Int)).reverse) (by simp) (nl_);unfold cd_;rw[List.length_reverse];have e5:aF_ d.reverse=(((d.map fun n:Nat=>(n:Int)).reverse).take d.length).map (Value.int .i64):=by
    rw[List.take_of_length_le (by simp)];unfold aF_;simp
   rw[e5];exact h2)
  clear k5 hzz hPh hr hD hp;go_wp2_with fail
  refine QR.o.mono ?_;rintro e3 w3 ⟨rfl,hb3,ho3⟩;have HB3:=hi_ hb3;have HO3:=hi_ ho3;clear hb3 ho3;go_wp2_with fail
  go_ret
  exact⟨_,rfl,HB3.o,by rw[HE.o];exact HO3.o⟩
 |some p=>
  rw[hp]at k5 hr hD;have HP:=hi_ hp;have hph:=hPh p hp;have k5':wr.cell? ⟨T.g,pos y*10+5,none⟩=some (.int .i64 (hd T pos p)):=k5;have hne:¬hd T pos p=0:=by have:=aP_ (T:=T) (pos:=pos) p;omega
  have hne2:(hd T pos p==0)=false:=bn_ hne;have Q3:=hi_ (QI.o y p hy hp wr HU.o);generalize hix:(nd m p).kids.idxOf y=ix at Q3;have HIX:=hi_ hix;have HPh:=hi_ hph;have HD:=hi_ hD;clear k5 hp hph hix hD hPh;generalize hzy:hd T pos y=zy at *;have HZY:=hi_ hzy;clear hzy;go_wp2_with fail
  refine Q3.o.mono ?_;rintro e3 w3 ⟨rfl,hb3⟩;have HU3:=bt_ HU hb3;have HO3:=hi_ (show w3.ownsRow w.heap.size 3 1 (.slice ao d.length cap) d.length (aF_ d) by
   refine⟨HO.o.1,?_⟩
   rcases HO.o.2 with hn|⟨g,cap,cur,hv,hb,hgg,rest⟩
   ·exact Or.inl hn
   exact Or.inr ⟨g,cap,cur,hv,hb,(hb3.block g (lt_of_block hgg)).trans hgg,rest⟩)
  have hsz3:=HU3.o.size;go_wp2_with (at_builtin;refine wpList_append_lies _ rfl _ _ 39 rfl w.heap.size 3 i0 _ 1 8 Tryz.underlying39 hi0 hz0 hz1 hz2 rfl (by decide) (.slice ao d.length cap) d.length (aF_ d) rfl (HO3.o.alloc _) ⟨w3.heap.size,0,none⟩ 1 1 [.int .i64 ix] rfl rfl ?c1 ?c2 ?c3 ?c4 ?c5 ?c6 (w3.heap.size+1) ?c7 ?_)
  case c1=>exact World.news_of_block (heap_alloc_new w3 (.cells #[.int .i64 ix] 3))
  case c2=>simp[Value.oneCell']
  case c3=>omega
  case c4=>unfold maxLen;omega
  case c5=>omega
  case c6=>simp;omega
  case c7=>simp
  intro gg cap2 w5 hown5 hgrow hat5 hlt5;have hlen6:(d++[ix]).length=d.length+1:=by simp
  have hv6:aF_ (d++[ix])=aF_ d++[.int .i64 ix]:=by unfold aF_;simp
  have HO5:Hd (cd_ w.heap.size w5 (.slice (some ⟨gg,0,none⟩) (d.length+1) cap2) (d++[ix])):=hi_ (by
   unfold cd_;rw[hlen6,hv6];exact hown5)
  have HB5:Hd (Below w.heap.size w w5):=hi_ ((HU3.o.alloc hsz3 _).grown hgrow (by simp;omega) (fun q hq=>(HO3.o.lt q hq).1));have k5b:=(ci_ HT.o HB5.o hy).2.1;rw[HP.o]at k5b;have k55:w5.cell? ⟨T.g,pos y*10+5,none⟩=some (.int .i64 (hd T pos p)):=k5b;have Q4:=hi_ (QA.o (hd T pos p) hr.1 hr.2 w5 HB5.o);clear k5' k5b hown5 hgrow hat5 hv6 hlen6;go_wp2_with fail
  refine Q4.o.mono ?_;rintro e4 w6 ⟨rfl,hb6⟩;have HU6:=bt_ HB5 hb6;have HO6:Hd (cd_ w.heap.size w6 (.slice (some ⟨gg,0,none⟩) (d.length+1) cap2) (d++[ix])):=hi_ (by
   refine⟨HO5.o.1,?_⟩
   rcases HO5.o.2 with hn|⟨g,cap,cur,hv,hb,hgg,rest⟩
   ·exact Or.inl hn
   exact Or.inr ⟨g,cap,cur,hv,hb,(hb6.block g (lt_of_block hgg)).trans hgg,rest⟩)
  go_wp2_with fail
  go_roundw
  case rel=>
   refine⟨p,d++[ix],rfl,rfl,HPh,hi_ ?_,hi_ ?_,HU6,HO6⟩
   ·rw[HC.o,hF.wf.pidx_step HP.o,HIX.o];simp
   have h1:=HL.o;have h2:=hF.wf.depth_step HP.o
   simp;omega
  rw[<-HZY.o]at *;exact HD.o
theorem e2_.form{T:am_}{pos:Nat->Nat}{base:Nat}{w:World}{v:Value}{l:List Nat}(h:e2_ T pos base w v l):∃ao cap,v=.slice ao l.length cap/\∀i c,l[i]?=some c->∃g,ao=some ⟨g,0,none⟩/\g<w.heap.size/\base<=g/\w.cell? ⟨g,i,none⟩=some (.int .i64 (hd T pos c)):=by
 unfold e2_ at h;have h0:=h
 rcases h.2 with⟨h1,h2⟩|⟨g,cap,cur,h1,_⟩
 ·refine⟨none,0,by rw[h1,h2],fun i c hc=>?_⟩
  rw[List.length_eq_zero_iff.1 h2]at hc
  cases hc
 rw[h1]at h0;refine⟨_,cap,h1,fun i c hc=>⟨g,rfl,?_,?_,?_⟩⟩
 ·exact(ad_ h0).1
 ·exact(ad_ h0).2.1
 have hi:i<l.length:=(List.getElem?_eq_some_iff.1 hc).1;rw[((ad_ h0).2.2.2 i (by unfold ih_;rw[List.length_map];exact hi)).1];unfold ih_;rw[List.getElem?_map,hc];rfl
theorem h8_{l:List Nat}{f:Nat->Nat}{i c:Nat}(h:l[i]?=some c):eC_ ((l.take (i+1)).map f)=max (eC_ ((l.take i).map f)) (f c):=by
 rw[List.take_add_one,h];unfold eC_;simp[List.foldl_append]
theorem kY_(m:aa_):∀n h,b3_ m n h<=n:=by
 intro n
 induction n with
 |zero=>intro h;exact Nat.le_refl 0
 |succ n ih=>
  intro h;show eC_ ((nd m h).kids.map (b3_ m n))+1<=n+1;have:eC_ ((nd m h).kids.map (b3_ m n))<=n:=f1_ (fun x hx=>by
   obtain⟨c,_,rfl⟩:=List.mem_map.1 hx;exact ih c)
  omega
theorem dP_(m:aa_)(h:Nat):ay_ m h<=128:=kY_ m 128 h
theorem jZ_(m:aa_)(l:List Nat):eC_ (l.map (ay_ m))<=128:=f1_ (fun x hx=>by
 obtain⟨c,_,rfl⟩:=List.mem_map.1 hx;exact dP_ m c)
theorem height_(T:am_)(m:aa_)(pos:Nat->Nat):∀(n j:Nat) (w:World),ay_ m j<=n->ag_ w T m pos->has m j=true →
  Calls Tryz.prog 116 #[.pointer (some ⟨T.tb,0,none⟩),.int .i64 (hd T pos j)] w fun e w'=>e=.returned (.int .i64 (ay_ m j:Nat))/\Below w.heap.size w w':=by
 intro n
 induction n with
 |zero=>
  intro j w hn hT hj;rw[hT.fits.wf.height_eq j]at hn;omega
 |succ n ih=>
 intro j w hn hT hj;have hF:=hT.fits;have HT:=hi_ hT;have IH:=hi_ (fun(c:Nat) (hc:c∈(nd m j).kids) W (hb:Below w.heap.size w W)=>ih c W (by have:=hF.wf.height_kid hc;omega) (hT.below hb) (by_ hF hj hc));have Q1:=hi_ (kN_ T m pos j w hT hj);have HE:=hi_ (hF.wf.height_eq j);have hkf:=cO_ hT.mem.few hF hj;clear ih hT hn
 go_enter Tryz.func116,Tryz.ntmps116
 go_wp2_with fail
 refine Q1.o.mono ?_;rintro e w1 ⟨v,rfl,hb1,ho1⟩;obtain⟨ao,cap,rfl,hcs⟩:=ho1.form;have HB1:=hi_ hb1;have HCS:=hi_ hcs;clear hb1 ho1 hcs Q1;generalize hl:(nd m j).kids=l at *;generalize hlen:l.length=len at *;have HLen:=hi_ hlen;clear hlen;go_wp2_with fail
 go_loopw [5,12] (fun v5 v12 wr=>∃i:Nat,v5=.int .i64 (eC_ ((l.take i).map (ay_ m)):Nat)/\v12=.int .i64 (i:Nat)/\i<=len/\Hd (Below w.heap.size w wr)/\Hd (Below w1.heap.size w1 wr)) (fun _ v12 _=>len-(a2_ v12).toNat)
 case atStart=>exact⟨0,rfl,rfl,by omega,HB1,hi_ (br_)⟩
 obtain⟨i,rfl,rfl,hi,HU,HU1⟩:=hrel;have hm1:=jZ_ m (l.take i);generalize hmx:eC_ ((l.take i).map (ay_ m))=mx at *;have HMX:=hi_ hmx;clear hmx HB1
 by_cases hq:i=len
 ·have hF2:Hd ((mx:Int)+1=(ay_ m j:Nat)):=hi_ (by
   rw[HE.o,<-HMX.o,List.take_of_length_le (by rw[HLen.o];omega)];rfl)
  have hnl:¬((i:Int)<(len:Int)):=by omega
  go_wp2_with fail
  go_ret
  exact⟨aE_ (by have:=hF2.out;simpa using this),HU.o⟩
 have hil:i<l.length:=by rw[HLen.o];omega
 have hlt:(i:Int)<(len:Int):=by omega
 have hx:l[i]?=some l[i]:=List.getElem?_eq_getElem hil;obtain⟨g,rfl,hg1,hg2,hcell⟩:=HCS.o _ _ hx;have hcr:wr.cell? ⟨g,i,none⟩=some (.int .i64 (hd T pos l[i])):=(HU1.o.cell (p:=⟨g,i,none⟩) hg1).trans hcell;have hm2:=h8_ (f:=ay_ m) hx;have Q3:=hi_ (IH.o _ (List.mem_of_getElem? hx) wr HU.o);have hm3:=dP_ m l[i];generalize l[i]=c at *;rw[HMX.o]at hm2;have HM2:=hi_ hm2;generalize ay_ m c=hc at *;clear hx hm2 hil hcell;go_wp2_with fail
 refine Q3.o.mono ?_;rintro e3 w3 ⟨rfl,hb3⟩;have HU3:=bt_ HU hb3;have HU4:=bt_ HU1 hb3;go_wp2_with fail
 go_roundw
 case rel=>
  refine⟨i+1,?_,?_,by omega,HU3,HU4⟩
  ·rw[HM2.o]
   congr 1
   omega
  first|rfl|(congr 1)
 show len-((i:Int)+1).toNat<len-((i:Int)).toNat;omega
end A
end
section
open Go.RowKit Go.Sort
namespace A
open H G
def aL_(x:G.Node)(av:Value):ez_:=⟨true,x.kind,x.name,av,x.attrs,x.data,0,0,0,0,0⟩
structure Added(T T':am_)(x:G.Node)(s:Nat):Prop where
 bs:T'.bs=T.bs
 st:T'.st=T.st
 root:T'.root=T.root
 live:T'.live=T.live+1
 len:s<T'.slots.length
 more:T.slots.length<=T'.slots.length
 one:∀t,t<T'.slots.length->t≠s->t<T.slots.length
 at_:∃av,T'.sl s=aL_ x av
 old:∀t,t<T.slots.length->t≠s->T'.sl t=T.sl t
 was:s<T.slots.length->(T.sl s).used=false
 frees:T'.frees.Nodup/\∀t,t∈T'.frees->t∈T.frees/\t≠s
def i6_(m:aa_)(pos:Nat->Nat)(s:Nat)(i:Nat):Nat:=if i=m.length then s else pos i
theorem c8_(m:aa_)(pos:Nat->Nat)(s:Nat):i6_ m pos s m.length=s:=if_pos rfl
theorem b8_{m:aa_}{pos:Nat->Nat}{s i:Nat}(h:i<m.length):i6_ m pos s i=pos i:=if_neg (by omega)
theorem gc_{m:aa_}{x:G.Node}(i:Nat):has (m++[x]) i=if i=m.length then !x.gone else has m i:=by
 unfold has;rw[aK_]
 split<;>rfl
theorem prev_in{m:aa_}(W:WF m){i y:Nat}(h:ah_ m i=some y):y<m.length:=by
 unfold ah_ at h
 cases hp:(nd m i).parent with
 |none=>rw[hp]at h;cases h
 |some p=>
  rw[hp]at h;have h:ah_.prevAt2 (nd m p).kids ((nd m p).kids.idxOf i)=some y:=h;unfold ah_.prevAt2 at h
  split at h
  ·cases h
  exact(W.kid p y (List.mem_of_getElem? h)).1
theorem next_in{m:aa_}(W:WF m){i y:Nat}(h:aq_ m i=some y):y<m.length:=by
 unfold aq_ at h
 cases hp:(nd m i).parent with
 |none=>rw[hp]at h;cases h
 |some p=>
  rw[hp]at h;exact(W.kid p y (List.mem_of_getElem? h)).1
theorem fS_{m m':aa_}{i:Nat}(h1:(nd m' i).parent=(nd m i).parent)(h2:∀p,(nd m i).parent=some p->(nd m' p).kids=(nd m p).kids):ah_ m' i=ah_ m i:=by
 unfold ah_;rw[h1]
 cases hp:(nd m i).parent with
 |none=>rfl
 |some p=>dsimp only;rw[h2 p hp]
theorem fW_{m m':aa_}{i:Nat}(h1:(nd m' i).parent=(nd m i).parent)(h2:∀p,(nd m i).parent=some p->(nd m' p).kids=(nd m p).kids):aq_ m' i=aq_ m i:=by
 unfold aq_;rw[h1]
 cases hp:(nd m i).parent with
 |none=>rfl
 |some p=>dsimp only;rw[h2 p hp]
section
variable {T T':am_} {m:aa_} {pos:Nat->Nat}
theorem eQ_(h1:T'.bs=T.bs)(h2:T'.st=T.st){s:Nat}{o:Option Nat}(ho:∀y,o=some y->y<m.length):hdO T' (i6_ m pos s) o=hdO T pos o:=by
 cases o with
 |none=>rfl
 |some y=>
  show handle T'.bs T'.st (i6_ m pos s y)=handle T.bs T.st (pos y);rw[h1,h2,b8_ (ho y rfl)]
theorem Fits.add(F:Fits T m pos){x:G.Node}(h1:x.parent=none)(h2:x.kids=[])(h3:2<=x.kind/\x.kind<=4)(hg:x.gone=false){s:Nat}(A:Added T T' x s):Fits T' (m++[x]) (i6_ m pos s):=by
 have W:=F.wf;have hH:∀i,has (m++[x]) i=true->i=m.length\/(i<m.length/\has m i=true):=by
  intro i hi;rw[gc_]at hi
  by_cases e:i=m.length
  ·exact Or.inl e
  rw[if_neg e]at hi;exact Or.inr ⟨aR_ hi,hi⟩
 obtain⟨av,hav⟩:=A.at_;have hne:∀i,has m i=true->pos i≠s:=by
  intro i hi e;have h4:=F.lt i hi;have h5:=F.used i hi;rw[e]at h4 h5;rw[A.was h4]at h5
  cases h5
 have hold:∀i,has m i=true->T'.sl (i6_ m pos s i)=T.sl (pos i):=by
  intro i hi;rw[b8_ (aR_ hi)];exact A.old _ (F.lt i hi) (hne i hi)
 have hnew:T'.sl (i6_ m pos s m.length)=aL_ x av:=by rw[c8_];exact hav
 have hx:nd (m++[x]) m.length=x:=h2_;have key:∀{P:Nat->Prop},P m.length->(∀i,i<m.length->has m i=true->P i)->∀i,has (m++[x]) i=true->P i:=by
  intro P h4 h5 i hi
  rcases hH i hi with e|⟨e,e2⟩
  ·rw[e];exact h4
  exact h5 i e e2
 refine⟨W.make h1 h2 h3,?_,?_,?_,?_,?_,?_,?_,?_,?_,?_,?_,?_,?_,?_,?_,?_⟩
 ·exact key (by rw[c8_];exact A.len) (fun i hi h=>by rw[b8_ hi];exact Nat.lt_of_lt_of_le (F.lt i h) A.more)
 ·exact key (by rw[hnew];rfl) (fun i hi h=>by rw[hold i h];exact F.used i h)
 ·exact key (by rw[hnew,hx];rfl) (fun i hi h=>by rw[hold i h,bx_ hi];exact F.kind i h)
 ·exact key (by rw[hnew,hx];rfl) (fun i hi h=>by rw[hold i h,bx_ hi];exact F.name i h)
 ·exact key (by rw[hnew,hx];rfl) (fun i hi h=>by rw[hold i h,bx_ hi];exact F.attrs i h)
 ·exact key (by rw[hnew,hx];rfl) (fun i hi h=>by rw[hold i h,bx_ hi];exact F.data i h)
 ·refine key (by rw[hnew,hx,h1];rfl) (fun i hi h=>?_)
  rw[hold i h,bx_ hi,eQ_ A.bs A.st (fun y hy=>(W.lt hy).2)];exact F.parent i h
 ·refine key (by rw[hnew,hx,h2];rfl) (fun i hi h=>?_)
  rw[hold i h,bx_ hi,eQ_ A.bs A.st (fun y hy=>(W.kid i y (List.mem_of_mem_head? hy)).1)];exact F.first i h
 ·refine key (by rw[hnew,hx,h2];rfl) (fun i hi h=>?_)
  rw[hold i h,bx_ hi,eQ_ A.bs A.st (fun y hy=>(W.kid i y (List.mem_of_mem_getLast? hy)).1)];exact F.last i h
 ·refine key (by rw[hnew];unfold ah_;rw[hx,h1];rfl) (fun i hi h=>?_)
  rw[hold i h,fS_ (m:=m) (by rw[bx_ hi]) (fun p hp=>by rw[bx_ (W.lt hp).2]),eQ_ A.bs A.st (fun y hy=>prev_in W hy)];exact F.prev i h
 ·refine key (by rw[hnew];unfold aq_;rw[hx,h1];rfl) (fun i hi h=>?_)
  rw[hold i h,fW_ (m:=m) (by rw[bx_ hi]) (fun p hp=>by rw[bx_ (W.lt hp).2]),eQ_ A.bs A.st (fun y hy=>next_in W hy)];exact F.next i h
 ·intro i j hi hj e
  rcases hH i hi with e1|⟨e1,e1'⟩
  ·rcases hH j hj with e2|⟨e2,e2'⟩
   ·rw[e1,e2]
   rw[e1,c8_,b8_ e2]at e;exact absurd e.symm (hne j e2')
  rcases hH j hj with e2|⟨e2,e2'⟩
  ·rw[e2,c8_,b8_ e1]at e
   exact absurd e (hne i e1')
  rw[b8_ e1,b8_ e2]at e;exact F.inj i j e1' e2' e
 ·intro t ht hu
  by_cases e:t=s
  ·exact⟨m.length,by rw[gc_,if_pos rfl,hg];rfl,by rw[c8_,e]⟩
  have h4:=A.one t ht e;rw[A.old t h4 e]at hu;obtain⟨i,hi,hp⟩:=F.onto t h4 hu;exact⟨i,by rw[gc_,if_neg (by have:=aR_ hi;omega)];exact hi,by rw[b8_ (aR_ hi)];exact hp⟩
 ·refine⟨A.frees.1,fun t ht=>?_⟩
  obtain⟨h4,h5⟩:=A.frees.2 t ht;obtain⟨h6,h7⟩:=F.frees.2 t h4;exact⟨Nat.lt_of_lt_of_le h6 A.more,by rw[A.old t h6 h5];exact h7⟩
 ·rw[A.live,F.live]
  have hl:(m++[x]).length=m.length+1:=by simp
  rw[hl,List.range_succ,List.filter_append,List.length_append];have e1:(List.range m.length).filter (has (m++[x]))=(List.range m.length).filter (has m):=by
   refine List.filter_congr fun i hi=>?_;rw[gc_,if_neg (by have:=List.mem_range.1 hi;omega)]
  have e2:has (m++[x]) m.length=true:=by rw[gc_,if_pos rfl,hg];rfl
  rw[e1,List.filter_cons_of_pos (by exact e2)];simp
 rw[A.root,F.root];unfold hd;rw[A.bs,A.st,b8_ W.doc.1]
structure Setted(T T':am_)(m:aa_)(pos:Nat->Nat)(h:Nat)(f:G.Node->G.Node):Prop where
 bs:T'.bs=T.bs
 st:T'.st=T.st
 len:T'.slots.length=T.slots.length
 frees:T'.frees=T.frees
 live:T'.live=T.live
 root:T'.root=T.root
 used:∀s,(T'.sl s).used=(T.sl s).used
 same:∀i,has m i=true->(T'.sl (pos i)).kind=(T.sl (pos i)).kind/\(T'.sl (pos i)).name=(T.sl (pos i)).name/\(T'.sl (pos i)).parent=(T.sl (pos i)).parent/\(T'.sl (pos i)).first=(T.sl (pos i)).first/\(T'.sl (pos i)).last=(T.sl (pos i)).last/\(T'.sl (pos i)).prev=(T.sl (pos i)).prev/\(T'.sl (pos i)).next=(T.sl (pos i)).next
 al:∀i,has m i=true->(T'.sl (pos i)).al=if i=h then(f (nd m h)).attrs else(T.sl (pos i)).al
 data:∀i,has m i=true->(T'.sl (pos i)).data=if i=h then(f (nd m h)).data else(T.sl (pos i)).data
theorem Fits.sett(F:Fits T m pos){h:Nat}(hh:has m h=true){f:G.Node->G.Node}(hf:∀x,(f x).kind=x.kind/\(f x).name=x.name/\(f x).parent=x.parent/\(f x).kids=x.kids/\(f x).gone=x.gone)(S:Setted T T' m pos h f):Fits T' (upd m h f) pos:=by
 have W:=F.wf;have hhl:=aR_ hh;have hnd:∀i,nd (upd m h f) i=if i=h then f (nd m i)else nd m i:=fun i=>cn_ hhl i
 have hs:∀i,(nd (upd m h f) i).kind=(nd m i).kind/\(nd (upd m h f) i).name=(nd m i).name/\(nd (upd m h f) i).parent=(nd m i).parent/\(nd (upd m h f) i).kids=(nd m i).kids/\(nd (upd m h f) i).gone=(nd m i).gone:=by
  intro i;rw[hnd]
  split
  ·exact hf _
  exact⟨rfl,rfl,rfl,rfl,rfl⟩
 have hH:∀i,has (upd m h f) i=has m i:=fun i=>by unfold has;rw[(hs i).2.2.2.2]
 have e0:∀o,hdO T' pos o=hdO T pos o:=d8_ S.bs S.st;have hl:=cV_ m h f;refine⟨W.same hl (fun i=>⟨(hs i).1,(hs i).2.2.1,(hs i).2.2.2.1,(hs i).2.2.2.2⟩),?_,?_,?_,?_,?_,?_,?_,?_,?_,?_,?_,?_,?_,?_,?_,?_⟩
 ·intro i hi;rw[hH]at hi;rw[S.len];exact F.lt i hi
 ·intro i hi;rw[hH]at hi;rw[S.used];exact F.used i hi
 ·intro i hi;rw[hH]at hi;rw[(S.same i hi).1,(hs i).1];exact F.kind i hi
 ·intro i hi;rw[hH]at hi;rw[(S.same i hi).2.1,(hs i).2.1];exact F.name i hi
 ·intro i hi
  rw[hH]at hi;rw[S.al i hi,hnd]
  by_cases e:i=h
  ·rw[if_pos e,if_pos e,e]
  rw[if_neg e,if_neg e];exact F.attrs i hi
 ·intro i hi
  rw[hH]at hi;rw[S.data i hi,hnd]
  by_cases e:i=h
  ·rw[if_pos e,if_pos e,e]
  rw[if_neg e,if_neg e];exact F.data i hi
 ·intro i hi;rw[hH]at hi;rw[(S.same i hi).2.2.1,(hs i).2.2.1,e0];exact F.parent i hi
 ·intro i hi;rw[hH]at hi;rw[(S.same i hi).2.2.2.1,(hs i).2.2.2.1,e0];exact F.first i hi
 ·intro i hi;rw[hH]at hi;rw[(S.same i hi).2.2.2.2.1,(hs i).2.2.2.1,e0];exact F.last i hi
 ·intro i hi;rw[hH]at hi;rw[(S.same i hi).2.2.2.2.2.1,fS_ (m:=m) (hs i).2.2.1 (fun p _=>(hs p).2.2.2.1),e0];exact F.prev i hi
 ·intro i hi;rw[hH]at hi;rw[(S.same i hi).2.2.2.2.2.2,fW_ (m:=m) (hs i).2.2.1 (fun p _=>(hs p).2.2.2.1),e0];exact F.next i hi
 ·intro i j hi hj e;rw[hH]at hi hj;exact F.inj i j hi hj e
 ·intro s hs2 hu
  rw[S.len]at hs2;rw[S.used]at hu;obtain⟨i,hi,hp⟩:=F.onto s hs2 hu;exact⟨i,by rw[hH];exact hi,hp⟩
 ·rw[S.frees]
  refine⟨F.frees.1,fun t ht=>?_⟩;rw[S.len,S.used];exact F.frees.2 t ht
 ·rw[S.live,F.live,hl]
  congr 2
  exact List.filter_congr fun i _=>(hH i).symm
 rw[S.root,F.root];unfold hd;rw[S.bs,S.st]
structure jA_(T T':am_)(l:List Nat)(pos:Nat->Nat):Prop where
 bs:T'.bs=T.bs
 st:T'.st=T.st
 len:T'.slots.length=T.slots.length
 live:T'.live=T.live-(l.length:Nat)
 root:T'.root=T.root
 frees:T'.frees=T.frees++l.map pos
 old:∀s,s<T.slots.length->(∀i,i∈l->pos i≠s)->T'.sl s=T.sl s
 gone:∀i,i∈l->(T'.sl (pos i)).used=false
theorem na_{α:Type}[DecidableEq α]{p q:α->Bool}:∀{l k:List α},l.Nodup->k.Nodup->(∀x,x∈k->x∈l/\p x=true)->(∀x,x∈l->q x=(p x && !k.contains x))->(l.filter q).length+k.length=(l.filter p).length:=by
 intro l k hl hk h1 h2;have e1:(l.filter p).Perm (l.filter q++k):=by
  refine(List.perm_ext_iff_of_nodup (hl.filter _) ?_).2 (fun x=>?_)
  ·rw[List.nodup_append]
   refine⟨hl.filter _,hk,fun a ha b hb e=>?_⟩;subst e;rw[List.mem_filter]at ha;rw[h2 a ha.1]at ha;have:k.contains a=true:=List.contains_iff_mem.2 hb;rw[this]at ha;simp at ha
  rw[List.mem_append,List.mem_filter,List.mem_filter];constructor
  ·rintro⟨ha,hb⟩
   by_cases e:x∈k
   ·exact Or.inr e
   refine Or.inl ⟨ha,?_⟩;rw[h2 x ha,hb];simpa using e
  rintro(⟨ha,hb⟩|ha)
  ·rw[h2 x ha]at hb
   simp at hb;exact⟨ha,hb.1⟩
  exact h1 x ha
 have:=e1.length_eq;rw[List.length_append]at this;omega
theorem Fits.drop(F:Fits T m pos){h:Nat}(hh:has m h=true)(hr:(nd m h).parent=none)(h0:h≠0)(hw:(walk m h).Nodup)(hwh:∀i,i∈walk m h->has m i=true)(D:jA_ T T' (walk m h) pos):Fits T' (G.drop m h) pos:=by
 have W:=F.wf;have hl:=dd_ m h;have hnd:∀i,i<m.length->nd (G.drop m h) i={ nd m i with gone:=(nd m i).gone || (walk m h).contains i }:=fun i hi=>fY_ i hi;have hH:∀i,has (G.drop m h) i=(has m i && !(walk m h).contains i):=by
  intro i
  rcases Nat.lt_or_ge i m.length with hi|hi
  ·unfold has
   rw[hnd i hi];show(!((nd m i).gone || _))=_;rw[Bool.not_or]
  unfold has;rw[c1_ hi,c1_ (by rw[hl];exact hi)];rfl
 have hH2:∀{i},has (G.drop m h) i=true->has m i=true/\i∉walk m h:=by
  intro i hi;rw[hH,Bool.and_eq_true]at hi;exact⟨hi.1,by simpa using hi.2⟩
 have hold:∀{i},has (G.drop m h) i=true->T'.sl (pos i)=T.sl (pos i):=by
  intro i hi;obtain⟨h1,h2⟩:=hH2 hi;exact D.old _ (F.lt i h1) (fun j hj e=>h2 (by rw[<-F.inj j i (hwh j hj) h1 e];exact hj))
 have e0:∀o,hdO T' pos o=hdO T pos o:=d8_ D.bs D.st;have hsh:∀i,(nd (G.drop m h) i).kind=(nd m i).kind/\(nd (G.drop m h) i).parent=(nd m i).parent/\(nd (G.drop m h) i).kids=(nd m i).kids/\(nd (G.drop m h) i).name=(nd m i).name/\(nd (G.drop m h) i).attrs=(nd m i).attrs/\(nd (G.drop m h) i).data=(nd m i).data:=by
  intro i
  rcases Nat.lt_or_ge i m.length with hi|hi
  ·rw[hnd i hi];exact⟨rfl,rfl,rfl,rfl,rfl,rfl⟩
  rw[c1_ hi,c1_ (by rw[hl];exact hi)];exact⟨rfl,rfl,rfl,rfl,rfl,rfl⟩
 refine⟨W.drop hr h0,?_,?_,?_,?_,?_,?_,?_,?_,?_,?_,?_,?_,?_,?_,?_,?_⟩
 ·intro i hi;rw[D.len];exact F.lt i (hH2 hi).1
 ·intro i hi;rw[hold hi];exact F.used i (hH2 hi).1
 ·intro i hi;rw[hold hi,(hsh i).1];exact F.kind i (hH2 hi).1
 ·intro i hi;rw[hold hi,(hsh i).2.2.2.1];exact F.name i (hH2 hi).1
 ·intro i hi;rw[hold hi,(hsh i).2.2.2.2.1];exact F.attrs i (hH2 hi).1
 ·intro i hi;rw[hold hi,(hsh i).2.2.2.2.2];exact F.data i (hH2 hi).1
 ·intro i hi;rw[hold hi,(hsh i).2.1,e0];exact F.parent i (hH2 hi).1
 ·intro i hi;rw[hold hi,(hsh i).2.2.1,e0];exact F.first i (hH2 hi).1
 ·intro i hi;rw[hold hi,(hsh i).2.2.1,e0];exact F.last i (hH2 hi).1
 ·intro i hi;rw[hold hi,fS_ (m:=m) (hsh i).2.1 (fun p _=>(hsh p).2.2.1),e0];exact F.prev i (hH2 hi).1
 ·intro i hi;rw[hold hi,fW_ (m:=m) (hsh i).2.1 (fun p _=>(hsh p).2.2.1),e0];exact F.next i (hH2 hi).1
 ·intro i j hi hj e;exact F.inj i j (hH2 hi).1 (hH2 hj).1 e
 ·intro s hs hu
  rw[D.len]at hs;have hn:∀i,i∈walk m h->pos i≠s:=fun i hi e=>by
   have:=D.gone i hi;rw[e,hu]at this
   cases this
  rw[D.old s hs hn]at hu;obtain⟨i,hi,hp⟩:=F.onto s hs hu;refine⟨i,?_,hp⟩;rw[hH,hi,Bool.true_and];have:i∉walk m h:=fun hm=>hn i hm hp;simpa using this
 ·rw[D.frees]
  refine⟨?_,fun t ht=>?_⟩
  ·rw[List.nodup_append]
   refine⟨F.frees.1,?_,fun a ha b hb e=>?_⟩
   ·have key:∀l:List Nat,l.Nodup->(∀i,i∈l->has m i=true)->(l.map pos).Nodup:=by
     intro l
     induction l with
     |nil=>intro _ _;exact List.nodup_nil
     |cons a t ih=>
      intro hn ha;rw[List.map_cons,List.nodup_cons];rw[List.nodup_cons]at hn;refine⟨fun hm=>?_,ih hn.2 (fun i hi=>ha i (by simp[hi]))⟩;obtain⟨b,hb,e⟩:=List.mem_map.1 hm;have:=F.inj b a (ha b (by simp[hb])) (ha a (by simp)) e;rw[this]at hb;exact hn.1 hb
    exact key _ hw hwh
   obtain⟨i,hi,rfl⟩:=List.mem_map.1 hb;subst e;have:=(F.frees.2 _ ha).2;rw[F.used i (hwh i hi)]at this
   cases this
  rcases List.mem_append.1 ht with h1|h1
  ·obtain⟨h2,h3⟩:=F.frees.2 t h1
   rw[D.len];refine⟨h2,?_⟩;rw[D.old t h2 (fun i hi e=>by rw[<-e,F.used i (hwh i hi)]at h3;cases h3)];exact h3
  obtain⟨i,hi,rfl⟩:=List.mem_map.1 h1;rw[D.len];exact⟨F.lt i (hwh i hi),D.gone i hi⟩
 ·rw[D.live,F.live,hl]
  have:=na_ (p:=has m) (q:=has (G.drop m h)) (l:=List.range m.length) (k:=walk m h) List.nodup_range hw (fun x hx=>⟨List.mem_range.2 (aR_ (hwh x hx)),hwh x hx⟩) (fun x _=>hH x);omega
 rw[D.root,F.root];unfold hd;rw[D.bs,D.st]
theorem WF.walk_has(W:WF m)(h:Nat):has m h=true->∀i,i∈walk m h->has m i=true:=by
 refine W.down_ind (P:=fun h=>has m h=true->∀i,i∈walk m h->has m i=true) (fun h ih hh i hi=>?_) h;rw[W.walk_eq]at hi
 rcases List.mem_cons.1 hi with e|hi
 ·rw[e];exact hh
 obtain⟨k,hk,hki⟩:=List.mem_flatMap.1 hi;refine ih k hk ?_ i hki;have:=W.gone k h (W.kid h k hk).2;unfold has at hh ⊢;rw[this];exact hh
theorem WF.walk_top(W:WF m){h i:Nat}(hi:i∈walk m h):contains m h i=true:=by
 rcases Nat.lt_or_ge i m.length with h1|h1
 ·exact(W.mem_walk h h1).1 hi
 have key:∀h,i∈walk m h->i=h\/i<m.length:=by
  intro h;refine W.down_ind (P:=fun h=>i∈walk m h->i=h\/i<m.length) (fun h ih hm=>?_) h;rw[W.walk_eq]at hm
  rcases List.mem_cons.1 hm with e|hm
  ·exact Or.inl e
  obtain⟨k,hk,hki⟩:=List.mem_flatMap.1 hm
  rcases ih k hk hki with e|e
  ·rw[e];exact Or.inr (W.kid h k hk).1
  exact Or.inr e
 rcases key h hi with e|e
 ·rw[e];exact W.contains_self h
 omega
theorem di_(W:WF m){a i:Nat}:contains m a i=true->depth m a<=depth m i:=by
 refine W.up_ind (P:=fun i=>contains m a i=true->depth m a<=depth m i) (fun i hp hc=>?_) (fun i p hp ih hc=>?_) i
 ·rw[W.contains_root hp]at hc
  rw[beq_iff_eq.1 hc];exact nl_
 rw[W.contains_step hp]at hc
 rcases Bool.or_eq_true_iff.1 hc with e|e
 ·rw[beq_iff_eq.1 e];exact nl_
 have:=ih e;rw[W.depth_step hp];omega
theorem contains_one(W:WF m){p a b i:Nat}(ha:(nd m a).parent=some p)(hb:(nd m b).parent=some p):contains m a i=true->contains m b i=true->a=b:=by
 refine W.up_ind (P:=fun i=>contains m a i=true->contains m b i=true->a=b) (fun i hp h1 h2=>?_) (fun i q hp ih h1 h2=>?_) i
 ·rw[W.contains_root hp]at h1 h2
  rw[beq_iff_eq.1 h1,beq_iff_eq.1 h2]
 rw[W.contains_step hp]at h1 h2;have hda:=W.depth_step ha;have hdb:=W.depth_step hb;have hdi:=W.depth_step hp
 rcases Bool.or_eq_true_iff.1 h1 with e1|e1<;>rcases Bool.or_eq_true_iff.1 h2 with e2|e2
 ·rw[beq_iff_eq.1 e1,beq_iff_eq.1 e2]
 ·have e:=beq_iff_eq.1 e1
  rw[e,hp]at ha;injection ha with ha
  have:=di_ W e2;rw[ha]at this;omega
 ·have e:=beq_iff_eq.1 e2
  rw[e,hp]at hb;injection hb with hb
  have:=di_ W e1;rw[hb]at this;omega
 exact ih e1 e2
theorem g2_{f:Nat->List Nat}:∀{l:List Nat},l.Nodup->(∀x,x∈l->(f x).Nodup)->(∀x y i,x∈l->y∈l->i∈f x->i∈f y->x=y)->(l.flatMap f).Nodup
 |[],_,_,_=>by simp
 |a :: t,hl,h1,h2=>by
  rw[List.nodup_cons]at hl;rw[List.flatMap_cons,List.nodup_append];refine⟨h1 a (by simp),g2_ hl.2 (fun x hx=>h1 x (by simp[hx])) (fun x y i hx hy=>h2 x y i (by simp[hx]) (by simp[hy])),fun i hi j hj e=>?_⟩;subst e;obtain⟨y,hy,hiy⟩:=List.mem_flatMap.1 hj;have:=h2 a y i (by simp) (by simp[hy]) hi hiy;subst this;exact hl.1 hy
theorem WF.walk_nodup(W:WF m)(h:Nat):(walk m h).Nodup:=by
 refine W.down_ind (P:=fun h=>(walk m h).Nodup) (fun h ih=>?_) h;rw[W.walk_eq,List.nodup_cons];refine⟨fun hm=>?_,g2_ (W.nodup h) ih (fun x y i hx hy hi hj=>contains_one W (W.kid h x hx).2 (W.kid h y hy).2 (WF.walk_top W hi) (WF.walk_top W hj))⟩;obtain⟨k,hk,hki⟩:=List.mem_flatMap.1 hm;have h1:=di_ W (WF.walk_top W hki);have h2:=W.depth_step (W.kid h k hk).2;omega
end
end A
end
section
open Go.RowKit Go.Sort
namespace A
open H G
def sgn(a b:Int):Int:=if a<b then -1 else if b<a then 1 else 0
theorem isNaN(a:Int)(w:World):Calls Tryz.prog 95 #[.int .i64 a] w fun e w'=>e=.returned (.bool false)/\w=w':=by
 go_enter Tryz.func95,Tryz.ntmps95
 go_wp2_with fail
 go_ret
 exact⟨ap_ (by simp),rfl⟩
theorem pa_(a b:Int)(w:World):Calls Tryz.prog 39 #[.int .i64 a,.int .i64 b] w fun e w'=>e=.returned (.int .i64 (sgn a b))/\w=w':=by
 have Q1:=hi_ (isNaN a w);have Q2:=hi_ (isNaN b w);have HS:Hd (sgn a b=if a<b then -1 else if b<a then 1 else 0):=hi_ rfl;generalize sgn a b=s at *
 go_enter Tryz.func39,Tryz.ntmps39
 go_wp2_with fail
 refine Q1.o.mono ?_;rintro e w1 ⟨rfl,rfl⟩;go_wp2_with fail
 refine Q2.o.mono ?_;rintro e w1 ⟨rfl,rfl⟩
 by_cases h1:a<b
 ·go_wp2_with fail
  go_ret
  exact⟨aE_ (a:=-1) (by rw[HS.o,if_pos h1]),rfl⟩
 by_cases h2:b<a
 ·go_wp2_with fail
  go_ret
  exact⟨aE_ (a:=1) (by rw[HS.o,if_neg (by omega),if_pos h2]),rfl⟩
 go_wp2_with fail
 go_ret
 exact⟨aE_ (a:=0) (by rw[HS.o,if_neg (by omega),if_neg (by omega)]),rfl⟩
theorem ne_{x y:List Nat}{i:Nat}(h:∀k,k<i->x[k]?=y[k]?)(hx:i<=x.length)(hy:i<=y.length):cmpL x y=cmpL (x.drop i) (y.drop i):=by
 have e:x.take i=y.take i:=by
  apply List.ext_getElem?;intro k;rw[List.getElem?_take,List.getElem?_take]
  by_cases hk:k<i
  ·rw[if_pos hk,if_pos hk,h k hk]
  rw[if_neg hk,if_neg hk]
 calc cmpL x y=cmpL (x.take i++x.drop i) (y.take i++y.drop i):=by rw[List.take_append_drop,List.take_append_drop]
  _=_:=by rw[e,d9_]
theorem drop_at{x:List Nat}{i a:Nat}(h:x[i]?=some a):x.drop i=a :: x.drop (i+1):=by
 have hi:i<x.length:=by
  rcases Nat.lt_or_ge i x.length with h2|h2
  ·exact h2
  rw[List.getElem?_eq_none h2]at h;cases h
 rw[List.drop_eq_getElem_cons hi]
 congr 1
 rw[List.getElem?_eq_getElem hi]at h;injection h
theorem ov_{B1 B2:Nat}(v1 v2:Value)(x y:List Nat)(w:World)(h1:cd_ B1 w v1 x)(h2:cd_ B2 w v2 y)(hx:x.length<=1000000)(hy:y.length<=1000000) :
  Calls Tryz.prog 96 #[v1,v2] w fun e w'=>e=.returned (.int .i64 (cmpL x y))/\w=w':=by
 obtain⟨ao1,cap1,rfl,hc1⟩:=R.cd_.form h1;obtain⟨ao2,cap2,rfl,hc2⟩:=R.cd_.form h2;have HC1:=hi_ hc1;have HC2:=hi_ hc2;have QC:=hi_ (fun a b=>pa_ a b w);have HG:Hd (cmpL x y=cmpL x y):=hi_ rfl;generalize hz:cmpL x y=z at *;have HZ:=hi_ hz;generalize hlx:x.length=lx at *;generalize hly:y.length=ly at *;have HX:=hi_ hlx;have HY:=hi_ hly;clear h1 h2 hc1 hc2 hz hlx hly HG
 go_enter Tryz.func96,Tryz.ntmps96
 go_wp2_with fail
 go_loopw [11] (fun v11 wr=>∃i:Nat,v11=.int .i64 (i:Nat)/\wr=w/\i<=lx/\i<=ly/\Hd (∀k,k<i->x[k]?=y[k]?)) (fun v11 _=>lx-(a2_ v11).toNat)
 case atStart=>exact⟨0,rfl,rfl,Nat.zero_le _,Nat.zero_le _,hi_ (fun k hk=>by omega)⟩
 obtain⟨i,rfl,rfl,hi1,hi2,HE⟩:=hrel;have HD:=hi_ (ne_ HE.o (by rw[HX.o];exact hi1) (by rw[HY.o];exact hi2))
 by_cases e1:i=lx
 ·have n1:¬((i:Int)<(lx:Int)):=by omega
  by_cases e2:lx<ly
  ·have n2:((lx:Int)<(ly:Int)):=by omega
   go_wp2_with fail
   go_ret
   refine⟨aE_ (a:=-1) ?_,rfl⟩;rw[<-HZ.o,HD.o,List.drop_of_length_le (l:=x) (by rw[HX.o];omega)]
   cases hd:y.drop i with
   |nil=>have:=congrArg List.length hd;rw[List.length_drop,HY.o]at this;simp at this;omega
   |cons b t=>rfl
  have n2:¬((lx:Int)<(ly:Int)):=by omega
  go_wp2_with fail
  go_ret
  refine⟨aE_ (a:=0) ?_,rfl⟩;rw[<-HZ.o,HD.o,List.drop_of_length_le (l:=x) (by rw[HX.o];omega),List.drop_of_length_le (l:=y) (by rw[HY.o];omega)];rfl
 have n1:((i:Int)<(lx:Int)):=by omega
 have hil:i<x.length:=by rw[HX.o];omega
 have hx1:x[i]?=some x[i]:=List.getElem?_eq_getElem hil;obtain⟨g1,rfl,hg1,c1⟩:=HC1.o _ _ hx1;have HD1:=hi_ (drop_at hx1);generalize x[i]=a at *;clear hil
 by_cases e2:i=ly
 ·have n2:((ly:Int)<=(i:Int)):=by omega
  have HQ:Hd (z=1):=hi_ (by rw[<-HZ.o,HD.o,HD1.o,List.drop_of_length_le (l:=y) (by rw[HY.o];omega)];rfl);clear hx1 e2;go_wp2_with fail
  go_ret
  exact⟨aE_ (a:=1) HQ.o.symm,rfl⟩
 have n2:¬((ly:Int)<=(i:Int)):=by omega
 have n3:((i:Int)<(ly:Int)):=by omega
 have hjl:i<y.length:=by rw[HY.o];omega
 have hy1:y[i]?=some y[i]:=List.getElem?_eq_getElem hjl;obtain⟨g2,rfl,hg2,c2⟩:=HC2.o _ _ hy1;have HD2:=hi_ (drop_at hy1);generalize y[i]=b at *;clear hjl;have HH1:=hi_ hx1;have HH2:=hi_ hy1;have HQ:Hd (z=if a<b then -1 else if b<a then 1 else cmpL (x.drop (i+1)) (y.drop (i+1))):=hi_ (by rw[<-HZ.o,HD.o,HD1.o,HD2.o,cmpL]);have Q3:=hi_ (QC.o a b);unfold sgn at Q3;clear hx1 hy1
 by_cases l1:a<b
 ·rw[if_pos (by omega)]at Q3
  go_wp2_with fail
  refine Q3.o.mono ?_;rintro e w1 ⟨rfl,rfl⟩;go_wp2_with fail
  go_ret
  exact⟨aE_ (a:=-1) (by rw[HQ.o,if_pos l1]),rfl⟩
 by_cases l2:b<a
 ·rw[if_neg (by omega),if_pos (by omega)]at Q3
  go_wp2_with fail
  refine Q3.o.mono ?_;rintro e w1 ⟨rfl,rfl⟩;go_wp2_with fail
  go_ret
  exact⟨aE_ (a:=1) (by rw[HQ.o,if_neg l1,if_pos l2]),rfl⟩
 rw[if_neg (by omega),if_neg (by omega)]at Q3;have hab:=hi_ (show a=b by omega);go_wp2_with fail
 refine Q3.o.mono ?_;rintro e w1 ⟨rfl,rfl⟩;go_wp2_with fail
 go_roundw
 case rel=>
  refine⟨i+1,?_,trivial,by omega,by omega,hi_ (fun k hk=>?_)⟩
  ·first|rfl|(congr 1)
  by_cases hk2:k=i
  ·rw[hk2,HH1.o,HH2.o,hab.out]
  exact HE.o k (by omega)
 show lx-((i:Int)+1).toNat<lx-((i:Int)).toNat;omega
theorem ca_{w:World}{B B':Nat}{e:TypeId}{size n:Nat}{v:Value}{xs:List Value}(h:w.ownsRow B e size v n xs)(hB:B'<=B):w.ownsRow B' e size v n xs:=by
 refine⟨h.1,?_⟩
 rcases h.2 with hn|⟨g,cap,cur,hv,hb,rest⟩
 ·exact Or.inl hn
 exact Or.inr ⟨g,cap,cur,hv,Nat.le_trans hB hb,rest⟩
theorem dE_{w:World}{B:Nat}{v:Value}{l:List (List UInt8×List UInt8)}(h:ab_ aj_ B 142 2 w v l):aw_ w v l:=ca_ h (Nat.zero_le _)
theorem ai_{w:World}{B:Nat}{e t:TypeId}{size n g:Nat}{v:Value}{xs:List Value}{cs:Array Value}(h:w.ownsRow B e size v n xs)(hb:Blk g cs t w)(hne:e≠t):v.ownBlock≠some g:=by
 intro hg;obtain⟨c,hc⟩:=a3_ h hg;exact hne (cD_ hc hb)
theorem nV_{w:World}{B:Nat}{e:TypeId}{size n g:Nat}{v:Value}{xs:List Value}(h:w.ownsRow B e size v n xs)(hn:v.ownBlock≠some g)(b0 b1 b2 b3 b4 b5 b6 b7 b8:Value):(set9 w g b0 b1 b2 b3 b4 b5 b6 b7 b8).ownsRow B e size v n xs:=
 au_ (au_ (au_ (au_ (au_ (au_ (au_ (au_ (au_ h hn 0 b0) hn 1 b1) hn 2 b2) hn 3 b3) hn 4 b4) hn 5 b5) hn 6 b6) hn 7 b7) hn 8 b8
def dX_:Array Value:=#[.int .i64 0,.string ⟨#[]⟩,.slice none 0 0,.string ⟨#[]⟩,.int .i64 0,.int .i64 0,.int .i64 0,.int .i64 0,.int .i64 0]
theorem og_(T:am_)(z:Int)(w:World)(hT:al_ w T)(hz:-9223372036854775808<=z)(hz2:z<=9223372036854775807)(hp:T.ptr 0 z=none) :
  Calls Tryz.prog 100 #[.pointer (some ⟨T.tb,0,none⟩),.int .i64 z] w fun e w'=>e=.returned (.tuple #[.agg dX_,.bool false])/\Below w.heap.size w w':=by
 have hB1:=(Below.refl w.heap.size w).alloc (nl_) (.cells #[.int .i64 0,.string ⟨#[]⟩,.slice none 0 0,.string ⟨#[]⟩,.int .i64 0,.int .i64 0,.int .i64 0,.int .i64 0,.int .i64 0] 126);have Q1:=hi_ (fun W (hW:Below w.heap.size w W)=>find T z W (hT.below hW) hz hz2);rw[hp]at Q1;unfold dX_;clear hT hp
 go_enter Tryz.func100,Tryz.ntmps100
 go_wp2_with fail
 refine(Q1.o _ hB1).mono ?_;rintro e w2 ⟨rfl,hb2⟩;have HB2:=hi_ (hB1.trans (hb2.mono hB1.size));have hb0:Blk w.heap.size #[.int .i64 0,.string ⟨#[]⟩,.slice none 0 0,.string ⟨#[]⟩,.int .i64 0,.int .i64 0,.int .i64 0,.int .i64 0,.int .i64 0] 126 w2:=(Blk.new w _ _).below hb2;have HB0:=hi_ hb0;have hlt2:w.heap.size<w2.heap.size:=hb0.lt;obtain⟨⟨k0,k1,k2,k3,k4,k5,k6,k7,k8⟩,⟨f0,f1,f2,f3,f4,f5,f6,f7,f8⟩⟩:=b2_ hb0;clear hb2 hb0;go_wp2_with fail
 have h9:=(Blk.set9 HB0.o (.int .i64 0) (.string ⟨#[]⟩) (.slice none 0 0) (.string ⟨#[]⟩) (.int .i64 0) (.int .i64 0) (.int .i64 0) (.int .i64 0) (.int .i64 0)).alloc (.cells #[.int .i64 0,.string ⟨#[]⟩,.slice none 0 0,.string ⟨#[]⟩,.int .i64 0,.int .i64 0,.int .i64 0,.int .i64 0,.int .i64 0] 126);have hb9:=eb_ HB2.o (nl_) (.int .i64 0) (.string ⟨#[]⟩) (.slice none 0 0) (.string ⟨#[]⟩) (.int .i64 0) (.int .i64 0) (.int .i64 0) (.int .i64 0) (.int .i64 0);have hb9:=hb9.alloc hb9.size (.cells #[.int .i64 0,.string ⟨#[]⟩,.slice none 0 0,.string ⟨#[]⟩,.int .i64 0,.int .i64 0,.int .i64 0,.int .i64 0,.int .i64 0] 126);obtain⟨⟨l0,l1,l2,l3,l4,l5,l6,l7,l8⟩,_⟩:=b2_ h9
 change bodyPost _ _ _ _ _ (World.alloc (set9 w2 w.heap.size (.int .i64 0) (.string ⟨#[]⟩) (.slice none 0 0) (.string ⟨#[]⟩) (.int .i64 0) (.int .i64 0) (.int .i64 0) (.int .i64 0) (.int .i64 0)) (.cells #[.int .i64 0,.string ⟨#[]⟩,.slice none 0 0,.string ⟨#[]⟩,.int .i64 0,.int .i64 0,.int .i64 0,.int .i64 0,.int .i64 0] 126));generalize World.alloc _ _=W9 at *;refine bodyPost_ret (v:=.tuple #[.agg #[.int .i64 0,.string ⟨#[]⟩,.slice none 0 0,.string ⟨#[]⟩,.int .i64 0,.int .i64 0,.int .i64 0,.int .i64 0,.int .i64 0],.bool false]) (by simp[results,Tryz.results100,go_sem,l0,l1,l2,l3,l4,l5,l6,l7,l8]) rfl ⟨rfl,hb9⟩
theorem l3_(T:am_)(m:aa_)(pos:Nat->Nat)(i:Nat)(w:World)(hT:ag_ w T m pos)(hi:has m i=true)(hl:(nd m i).attrs.length<=100000) :
  Calls Tryz.prog 50 #[.pointer (some ⟨T.tb,0,none⟩),.int .i64 (hd T pos i)] w fun e w'=>∃v,e=.returned (.tuple #[dF_ (T.sl (pos i)) v,.bool true])/\Below w.heap.size w w'/\ab_ aj_ w.heap.size 142 2 w' v (nd m i).attrs:=by
 have hB1:=(Below.refl w.heap.size w).alloc (nl_) (.cells #[.int .i64 0,.string ⟨#[]⟩,.slice none 0 0,.string ⟨#[]⟩,.int .i64 0,.int .i64 0,.int .i64 0,.int .i64 0,.int .i64 0] 126);have Q1:=hi_ (fun W (hW:Below w.heap.size w W)=>get_ T m pos i W (hT.below hW) hi);have HA:=hi_ (fun W (hW:Below w.heap.size w W)=>(hT.below hW).attrs hi);rw[hT.fits.attrs i hi]at HA;obtain⟨ao,acap,hat⟩:=(hT.attrs hi).slice;unfold dF_ at Q1 ⊢;generalize T.sl (pos i)=r at *;rw[hat]at Q1 HA;generalize hd T pos i=z at *;generalize r.al.length=an at *;generalize (nd m i).attrs=al at *;clear hT hat
 go_enter Tryz.func50,Tryz.ntmps50
 go_wp2_with fail
 refine(Q1.o _ hB1).mono ?_;rintro e w2 ⟨rfl,hb2⟩;have HB2:=hi_ (hB1.trans (hb2.mono hB1.size));have HB0:=hi_ (show Blk w.heap.size #[.int .i64 0,.string ⟨#[]⟩,.slice none 0 0,.string ⟨#[]⟩,.int .i64 0,.int .i64 0,.int .i64 0,.int .i64 0,.int .i64 0] 126 w2 from (Blk.new w _ _).below hb2);clear hb2 Q1;go_wp2_with fail
 have HB3:=hi_ (HB2.o.alloc HB2.o.size (.cells #[.int .i64 r.kind,.string ⟨r.name.toArray⟩,.slice ao an acap,.string ⟨r.data.toArray⟩,.int .i64 r.parent,.int .i64 r.first,.int .i64 r.last,.int .i64 r.prev,.int .i64 r.next] 126));have QC:=hi_ (dH_ _ al _ (HA.o _ HB3.o) hl);refine QC.o.mono ?_;rintro e w3 ⟨v,rfl,hr3,hb3⟩;obtain⟨bo,bcap,hv⟩:=aw_.slice (dE_ hr3);subst hv;have HB4:=bt_ HB3 hb3;have HR4:=hi_ (ca_ hr3 HB3.o.size);have HX0:=hi_ (show Blk w.heap.size #[.int .i64 0,.string ⟨#[]⟩,.slice none 0 0,.string ⟨#[]⟩,.int .i64 0,.int .i64 0,.int .i64 0,.int .i64 0,.int .i64 0] 126 w3 from (HB0.o.alloc _).below hb3)
 have HX1:=hi_ (show Blk w2.heap.size #[.int .i64 r.kind,.string ⟨r.name.toArray⟩,.slice ao an acap,.string ⟨r.data.toArray⟩,.int .i64 r.parent,.int .i64 r.first,.int .i64 r.last,.int .i64 r.prev,.int .i64 r.next] 126 w3 from (Blk.new w2 _ _).below hb3);obtain⟨⟨k0,k1,k2,k3,k4,k5,k6,k7,k8⟩,⟨f0,f1,f2,f3,f4,f5,f6,f7,f8⟩⟩:=b2_ HX0.o;obtain⟨⟨c0,c1,c2,c3,c4,c5,c6,c7,c8⟩,⟨g0,g1,g2,g3,g4,g5,g6,g7,g8⟩⟩:=b2_ HX1.o;have hne:w.heap.size<w2.heap.size:=HB0.o.lt;generalize w2.heap.size=b6 at *;generalize hb4:w.heap.size=b4 at *;have HE4:=hi_ hb4;clear hb3 hr3 QC HB3 HB0 hb4;go_wp2_with fail
 have hn4:=ai_ HR4.o HX0.o (by decide);have hn6:=ai_ HR4.o HX1.o (by decide);have hR5:=nV_ (au_ HR4.o hn6 2 (.slice bo al.length bcap)) hn4 (.int .i64 r.kind) (.string ⟨r.name.toArray⟩) (.slice bo al.length bcap) (.string ⟨r.data.toArray⟩) (.int .i64 r.parent) (.int .i64 r.first) (.int .i64 r.last) (.int .i64 r.prev) (.int .i64 r.next);have hb5:=eb_ (a0_ (o:=2) (v:=.slice bo al.length bcap) HB4.o (Nat.le_of_lt hne)) (nl_) (.int .i64 r.kind) (.string ⟨r.name.toArray⟩) (.slice bo al.length bcap) (.string ⟨r.data.toArray⟩) (.int .i64 r.parent) (.int .i64 r.first) (.int .i64 r.last) (.int .i64 r.prev) (.int .i64 r.next)
 have h9:=Blk.set9 (HX0.o.far (Nat.ne_of_lt hne) 2 (.slice bo al.length bcap)) (.int .i64 r.kind) (.string ⟨r.name.toArray⟩) (.slice bo al.length bcap) (.string ⟨r.data.toArray⟩) (.int .i64 r.parent) (.int .i64 r.first) (.int .i64 r.last) (.int .i64 r.prev) (.int .i64 r.next);obtain⟨⟨l0,l1,l2,l3,l4,l5,l6,l7,l8⟩,_⟩:=b2_ h9;change bodyPost _ _ _ _ _ (set9 (w3.setCell ⟨b6,2,none⟩ (.slice bo al.length bcap)) b4 (.int .i64 r.kind) (.string ⟨r.name.toArray⟩) (.slice bo al.length bcap) (.string ⟨r.data.toArray⟩) (.int .i64 r.parent) (.int .i64 r.first) (.int .i64 r.last) (.int .i64 r.prev) (.int .i64 r.next));generalize set9 _ _ _ _ _ _ _ _ _ _ _=W9 at *;rw[<-HE4.o]at hR5 hb5
 refine bodyPost_ret (v:=.tuple #[.agg #[.int .i64 r.kind,.string ⟨r.name.toArray⟩,.slice bo al.length bcap,.string ⟨r.data.toArray⟩,.int .i64 r.parent,.int .i64 r.first,.int .i64 r.last,.int .i64 r.prev,.int .i64 r.next],.bool true]) (by simp[results,Tryz.results50,go_sem,l0,l1,l2,l3,l4,l5,l6,l7,l8]) rfl ⟨_,rfl,hb5,hR5⟩
theorem h0_(T:am_)(z:Int)(w:World)(hT:al_ w T)(hz:-9223372036854775808<=z)(hz2:z<=9223372036854775807)(hp:T.ptr 0 z=none) :
  Calls Tryz.prog 50 #[.pointer (some ⟨T.tb,0,none⟩),.int .i64 z] w fun e w'=>e=.returned (.tuple #[.agg dX_,.bool false])/\Below w.heap.size w w':=by
 have hB1:=(Below.refl w.heap.size w).alloc (nl_) (.cells #[.int .i64 0,.string ⟨#[]⟩,.slice none 0 0,.string ⟨#[]⟩,.int .i64 0,.int .i64 0,.int .i64 0,.int .i64 0,.int .i64 0] 126);have Q1:=hi_ (fun W (hW:Below w.heap.size w W)=>og_ T z W (hT.below hW) hz hz2 hp);unfold dX_ at *;clear hT hp
 go_enter Tryz.func50,Tryz.ntmps50
 go_wp2_with fail
 refine(Q1.o _ hB1).mono ?_;rintro e w2 ⟨rfl,hb2⟩;have HB2:=hi_ (hB1.trans (hb2.mono hB1.size));have HB0:=hi_ (show Blk w.heap.size #[.int .i64 0,.string ⟨#[]⟩,.slice none 0 0,.string ⟨#[]⟩,.int .i64 0,.int .i64 0,.int .i64 0,.int .i64 0,.int .i64 0] 126 w2 from (Blk.new w _ _).below hb2);clear hb2 Q1;go_wp2_with fail
 refine(nf_ _).mono ?_;rintro e w3 ⟨rfl,rfl⟩;obtain⟨⟨k0,k1,k2,k3,k4,k5,k6,k7,k8⟩,⟨f0,f1,f2,f3,f4,f5,f6,f7,f8⟩⟩:=b2_ HB0.o;have hlt:w.heap.size<w2.heap.size:=HB0.o.lt;go_wp2_with fail
 have h9:=(Blk.set9 HB0.o (.int .i64 0) (.string ⟨#[]⟩) (.slice none 0 0) (.string ⟨#[]⟩) (.int .i64 0) (.int .i64 0) (.int .i64 0) (.int .i64 0) (.int .i64 0)).alloc (.cells #[.int .i64 0,.string ⟨#[]⟩,.slice none 0 0,.string ⟨#[]⟩,.int .i64 0,.int .i64 0,.int .i64 0,.int .i64 0,.int .i64 0] 126);have hb9:=eb_ HB2.o (nl_) (.int .i64 0) (.string ⟨#[]⟩) (.slice none 0 0) (.string ⟨#[]⟩) (.int .i64 0) (.int .i64 0) (.int .i64 0) (.int .i64 0) (.int .i64 0);have hb9:=hb9.alloc hb9.size (.cells #[.int .i64 0,.string ⟨#[]⟩,.slice none 0 0,.string ⟨#[]⟩,.int .i64 0,.int .i64 0,.int .i64 0,.int .i64 0,.int .i64 0] 126);obtain⟨⟨l0,l1,l2,l3,l4,l5,l6,l7,l8⟩,_⟩:=b2_ h9
 change bodyPost _ _ _ _ _ (World.alloc (set9 w2 w.heap.size (.int .i64 0) (.string ⟨#[]⟩) (.slice none 0 0) (.string ⟨#[]⟩) (.int .i64 0) (.int .i64 0) (.int .i64 0) (.int .i64 0) (.int .i64 0)) (.cells #[.int .i64 0,.string ⟨#[]⟩,.slice none 0 0,.string ⟨#[]⟩,.int .i64 0,.int .i64 0,.int .i64 0,.int .i64 0,.int .i64 0] 126));generalize World.alloc _ _=W9 at *;refine bodyPost_ret (v:=.tuple #[.agg #[.int .i64 0,.string ⟨#[]⟩,.slice none 0 0,.string ⟨#[]⟩,.int .i64 0,.int .i64 0,.int .i64 0,.int .i64 0,.int .i64 0],.bool false]) (by simp[results,Tryz.results50,go_sem,l0,l1,l2,l3,l4,l5,l6,l7,l8]) rfl ⟨rfl,hb9⟩
end A
end
section
open Go.RowKit Go.Sort
namespace R
open H G A
theorem mi_(M:aJ_)(i p:Nat)(w:World)(h:ac_ w M)(W:WF M.m)(hi:i<M.nodes.length)(hp:(nd M.m i).parent=some p):Calls Tryz.prog 123 #[.pointer (some ⟨M.mb,0,none⟩),.int .i64 i] w fun e w'=>e=.returned (.int .i64 ((nd M.m p).kids.idxOf i:Nat))/\w=w':=by
 obtain⟨c0,l0,l1⟩:=h.top;have k4:=(h.cell hi).2.2.2.2.1;rw[hp]at k4;have k4':w.cell? ⟨M.g,i*7+4,none⟩=some (.int .i64 p):=k4;have n1:(i:Int)<(M.nodes.length:Int):=by omega
 have hpl:p<M.nodes.length:=by rw[<-M.m_len];exact(W.lt hp).2
 have n2:(p:Int)<(M.nodes.length:Int):=by omega
 have k5:=(h.cell hpl).2.2.2.2.2.1;obtain⟨ao,cap,hv,hc⟩:=cd_.form (h.kidsRow hpl);rw[hv]at k5;have hmem:=(W.par i p hp).2;have hnd:=W.nodup p;have hfew:=h.few;have hlt:=List.idxOf_lt_length_of_mem hmem;have hat:=dB_ hmem;generalize hl:(nd M.m p).kids=l at *;have HIx:Hd (∀n,l[n]?=some i->l.idxOf i=n):=hi_ (fun n hn=>dx_ hnd hn);have HMem:=hi_ hmem;have HNd:=hi_ (fun n (hn:l[n]?=some i)=>dx_ hnd hn);generalize hix:l.idxOf i=ix at *;have HAt:=hi_ hat;have HC:=hi_ hc;have hln:l.length<=1000000:=by
  have h1:l.length<=(List.range M.nodes.length).length:=List.Nodup.length_le_of_subset hnd (fun x hx=>List.mem_range.2 (by rw[<-M.m_len];exact(W.kid p x (by rw[hl];exact hx)).1));rw[List.length_range]at h1;omega
 clear k4 h hp hmem hl hix hv hat hc hnd hi hpl
 go_enter Tryz.func123,Tryz.ntmps123
 go_wp2_with fail
 go_loopw [6] (fun v6 wr=>∃n:Nat,v6=.int .i64 (n:Nat)/\wr=w/\n<=ix) (fun v6 _=>l.length-(a2_ v6).toNat)
 case atStart=>exact⟨0,rfl,rfl,Nat.zero_le _⟩
 obtain⟨n,rfl,rfl,hn⟩:=hrel;have hnl:n<l.length:=by omega
 have hx:l[n]?=some l[n]:=List.getElem?_eq_getElem hnl;obtain⟨g,rfl,hg,hcell⟩:=HC.o _ _ hx;have HX:=hi_ hx;generalize l[n]=x at *;have n3:(n:Int)<(l.length:Int):=by omega
 by_cases e:x=i
 ·have z1:((x:Int)==(i:Int))=true:=by rw[e];exact beq_self_eq_true _
  have z2:(x:Int)=(i:Int):=by omega
  have HF:=hi_ (show n=ix by have:=HIx.o n (by rw[HX.o,e]);omega);clear e hx;go_wp2_with fail
  go_ret
  exact⟨aE_ (congrArg (fun n:Nat=>(n:Int)) HF.o),rfl⟩
 have z1:((x:Int)==(i:Int))=false:=bn_ (by omega);have z2:¬(x:Int)=(i:Int):=by omega
 have hne:n≠ix:=fun e2=>e (by have h1:=HX.o;rw[e2,HAt.o]at h1;injection h1 with h1;exact h1.symm);have HL:=hi_ (show n+1<=ix by omega);have wn:IntKind.i64.wrap ((n:Int)+1)=(n:Int)+1:=IntWalk.i64_in _ (by omega);clear e hx hne;go_wp2_with fail
 go_roundw
 case rel=>exact⟨n+1,by first|rfl|(congr 1),trivial,HL.o⟩
 show l.length-((n:Int)+1).toNat<l.length-((n:Nat):Int).toNat;omega
end R
end
section
open Go.RowKit Go.Sort
namespace A
open H G
theorem lD_{T:am_}{m:aa_}{pos:Nat->Nat}(F:Fits T m pos)(j:Nat):has m j=true->has m (top m j)=true:=by
 refine F.wf.up_ind (P:=fun j=>has m j=true->has m (top m j)=true) (fun h hp hh=>?_) (fun h p hp ih hh=>?_) j
 ·rw[F.wf.top_root hp];exact hh
 rw[F.wf.top_step hp];exact ih (bI_ F hh hp)
theorem jQ_{m:aa_}(W:WF m)(j:Nat):(pidx m j).length+1=depth m j:=by
 refine W.up_ind (P:=fun j=>(pidx m j).length+1=depth m j) (fun h hp=>?_) (fun h p hp ih=>?_) j
 ·rw[ba_ hp,W.depth_root hp];rfl
 rw[W.pidx_step hp,W.depth_step hp,List.length_append];simp;omega
theorem ou_(T:am_)(m:aa_)(pos:Nat->Nat)(i j:Nat)(w:World)(hT:ag_ w T m pos)(hi:has m i=true)(hj:has m j=true)(ht:top m i=top m j) :
  Calls Tryz.prog 42 #[.pointer (some ⟨T.tb,0,none⟩),.int .i64 (hd T pos i),.int .i64 (hd T pos j)] w fun e w'=>e=.returned (.tuple #[.int .i64 (cmpL (pidx m i) (pidx m j)),.int .i64 0])/\Below w.heap.size w w':=by
 have hF:=hT.fits;have hfew:=hT.mem.few;have QA:=hi_ (fun(y:Nat) (hy:has m y=true) W (hb:Below w.heap.size w W)=>at_ T (hd T pos y) W (hT.below hb).mem (by have:=aP_ (T:=T) (pos:=pos) y;omega) (by have:=bF_ hfew hF hy;omega));have QT:=hi_ (fun(y:Nat) (hy:has m y=true) W (hb:Below w.heap.size w W)=>top_ T m pos y W (hT.below hb) hy);have QP:=hi_ (fun(y:Nat) (hy:has m y=true) W (hb:Below w.heap.size w W)=>path_ T m pos y W (hT.below hb) hy);have Q1:=hi_ (QA.o i hi);have Q2:=hi_ (QA.o j hj);rw[bM_ hfew hF hi 1]at Q1;rw[bM_ hfew hF hj 1]at Q2;have Q3:=hi_ (QT.o i hi);have Q4:=hi_ (QT.o j hj);rw[ht]at Q3;have Q5:=hi_ (QP.o i hi);have Q6:=hi_ (QP.o j hj);have l1:=jQ_ hF.wf i;have l2:=jQ_ hF.wf j;have l3:=hF.wf.depth_le i;have l4:=hF.wf.depth_le j;generalize pidx m i=x at *
 generalize pidx m j=y at *;generalize hd T pos i=zi at *;generalize hd T pos j=zj at *;generalize hd T pos (top m j)=zt at *;clear hT QA QT QP hF
 go_enter Tryz.func42,Tryz.ntmps42
 go_wp2_with fail
 refine(Q1.o _ (br_)).mono ?_;rintro e w1 ⟨rfl,hb⟩;have HB1:=hi_ hb;clear hb;go_wp2_with fail
 refine(Q2.o _ HB1.o).mono ?_;rintro e w2 ⟨rfl,hb⟩;have HB2:=bt_ HB1 hb;clear hb;go_wp2_with fail
 refine(Q3.o _ HB2.o).mono ?_;rintro e w3 ⟨rfl,hb⟩;have HB3:=bt_ HB2 hb;clear hb;go_wp2_with fail
 refine(Q4.o _ HB3.o).mono ?_;rintro e w4 ⟨rfl,hb⟩;have HB4:=bt_ HB3 hb;clear hb;go_wp2_with fail
 refine(Q5.o _ HB4.o).mono ?_;rintro e w5 ⟨v5,rfl,hb,ho5⟩;have HB5:=bt_ HB4 hb;have HO5:=hi_ ho5;clear hb ho5;go_wp2_with fail
 refine(Q6.o _ HB5.o).mono ?_;rintro e w6 ⟨v6,rfl,hb,ho6⟩;have HB6:=bt_ HB5 hb;have HO6:=hi_ (own_below HO5.o hb);have QC:=hi_ (ov_ v5 v6 x y w6 HO6.o ho6 (by omega) (by omega));clear hb ho6;go_wp2_with fail
 refine QC.o.mono ?_;rintro e w7 ⟨rfl,rfl⟩;go_wp2_with fail
 exact bodyPost_ret (v:=.tuple #[.int .i64 (cmpL x y),.int .i64 0]) (by simp[results,Tryz.results42,go_sem]) rfl ⟨rfl,HB6.o⟩
end A
end
end Go.Proofs.YtinphfpdfodkkaaGreatDoor
