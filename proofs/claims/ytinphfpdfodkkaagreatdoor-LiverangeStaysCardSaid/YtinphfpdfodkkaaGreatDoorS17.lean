/- Texts. -/
import Derived.Test.YtinphfpdfodkkaaGreatDoorS10
import Derived.Test.YtinphfpdfodkkaaGreatDoorS16
set_option linter.unusedVariables false
set_option linter.unusedSimpArgs false
set_option maxHeartbeats 8000000
set_option maxRecDepth 100000
namespace Go.Proofs.YtinphfpdfodkkaaGreatDoor
section
open Go.RowKit Go.Sort
namespace A
open H G
abbrev BB:=List UInt8×List UInt8
def hL_(o:Option Nat):Int:=match o with|none=>-1|some i=>i
theorem eU_{p:BB->Bool}{l:List BB}{i:Nat}(h:∀j a,j<i->l[j]?=some a->p a=false):l.findIdx? p=((l.drop i).findIdx? p).map (· + i):=by
 induction i generalizing l with
 |zero=>simp
 |succ i ih=>
  cases l with
  |nil=>simp
  |cons a t=>
   have h0:=h 0 a (by omega) rfl;rw[List.findIdx?_cons,h0,List.drop_succ_cons,ih (l:=t) (fun j b hj hb=>h (j+1) b (by omega) (by simpa using hb))]
   cases (t.drop i).findIdx? p with
   |none=>rfl
   |some k=>simp;omega
theorem g6_(v:Value)(l:List BB)(w:World)(h:aw_ w v l)(hl:l.length<=1000000)(g:Nat)(lb:Array Value)(eg:∀args w,(callFunc g args).run Tryz.prog w=.ok (.enter g args) w)(p:BB->Bool)
  (hp:∀W a,a∈l->Below w.heap.size w W->Calls Tryz.prog g (#[.agg #[.string ⟨a.1.toArray⟩,.string ⟨a.2.toArray⟩]]++lb) W fun e w'=>e=.returned (.bool (p a))/\Below w.heap.size w w') :
  Calls Tryz.prog 151 #[v,.func (.func g) #[] lb] w fun e w'=>e=.returned (.int .i64 (hL_ (l.findIdx? p)))/\Below w.heap.size w w':=by
 obtain⟨ao,cap,hv⟩:=aw_.slice h;subst hv;have HA:=hi_ h;have HP:=hi_ hp;obtain⟨R,hR⟩:∃R,R=hL_ (l.findIdx? p):=⟨_,rfl⟩;have HR:=hi_ hR;rw[<-hR];clear h hp hR
 go_enter Tryz.func151,Tryz.ntmps151
 go_wp2_with fail
 go_loopw [8] (fun v8 wr=>∃i:Nat,v8=.int .i64 i/\i<=l.length/\Hd (Below w.heap.size w wr)/\Hd (∀j a,j<i->l[j]?=some a->p a=false)) (fun v8 _=>l.length-(a2_ v8).toNat)
 case atStart=>exact⟨0,rfl,Nat.zero_le _,hi_ (br_),hi_ (fun j a hj=>by omega)⟩
 obtain⟨i,rfl,hi,HB,HN⟩:=hrel
 by_cases hil:i<l.length
 ·have hiI:(i:Int)<(l.length:Int):=by omega
  obtain⟨g0,cap',hv,hgl⟩:=(HA.o.form).resolve_left (fun h=>by have:=h.2;rw[this]at hil;simp at hil);injection hv with e1 _ e3
  subst e1 e3;have hA2:aw_ wr (.slice (some ⟨g0,0,none⟩) l.length cap) l:=own_below HA.o HB.o;have hc0:=(ab_.cell ar_ hA2 hil (k:=0) (by omega)).1;have hc1:=(ab_.cell ar_ hA2 hil (k:=1) (by omega)).1;have hget:l[i]?=some l[i]:=List.getElem?_eq_getElem hil;have hcall:=HP.o wr l[i] (List.getElem_mem hil) HB.o;have HD:Hd (l.drop i=l[i] :: l.drop (i+1)):=hi_ (List.drop_eq_getElem_cons hil);generalize l[i]=a at *;have HG:=hi_ hget;obtain⟨nm,vl⟩:=a;have k0:wr.cell? ⟨g0,i*2,none⟩=some (.string ⟨nm.toArray⟩):=hc0;have k1:wr.cell? ⟨g0,i*2+1,none⟩=some (.string ⟨vl.toArray⟩):=hc1;clear hc0 hc1 hA2 hget
  cases hq:p (nm,vl) with
  |true=>
   rw[hq]at hcall;have HF:Hd (R=(i:Int)):=hi_ (by rw[HR.o,eU_ HN.o,HD.o,List.findIdx?_cons,hq];simp[hL_]);clear hq HD;go_wp2_with (go_at_fn g;refine hcall.mono ?_;rintro e w' ⟨rfl,hb'⟩)
   go_ret
   exact⟨aE_ HF.o.symm,hb'⟩
  |false=>
   rw[hq]at hcall;have HN2:Hd (∀j a,j<i+1->l[j]?=some a->p a=false):=hi_ (fun j a hj ha=>by
    by_cases e:j=i
    ·subst e
     rw[HG.o]at ha;injection ha with ha
     rw[<-ha];exact hq
    exact HN.o j a (by omega) ha)
   clear hq HD;go_wp2_with (go_at_fn g;refine hcall.mono ?_;rintro e w' ⟨rfl,hb'⟩)
   go_roundw
   case rel=>exact⟨i+1,by go_num,by omega,hi_ hb',HN2⟩
   simp[a2_];omega
 have hiI:¬(i:Int)<(l.length:Int):=by omega
 have HF:Hd (R=-1):=hi_ (by rw[HR.o,eU_ HN.o,List.drop_eq_nil_of_le (by omega)];rfl);go_wp2_with fail
 go_ret
 exact⟨aE_ HF.o.symm,HB.o⟩
theorem named1(nm x y:List UInt8)(b:Nat)(w:World)(hb:b<w.heap.size)(hc:w.cell? ⟨b,0,none⟩=some (.string ⟨nm.toArray⟩)) :
  Calls Tryz.prog 154 #[.agg #[.string ⟨x.toArray⟩,.string ⟨y.toArray⟩],.pointer (some ⟨b,0,none⟩)] w fun e w'=>e=.returned (.bool (x==nm))/\Below w.heap.size w w':=by
 have HB:=hi_ ((Below.refl w.heap.size w).alloc (nl_) (.cells #[.string ⟨x.toArray⟩,.string ⟨y.toArray⟩] 142));have HE:Hd (((⟨x.toArray⟩:ByteArray).toList==(⟨nm.toArray⟩:ByteArray).toList)=(x==nm)):=hi_ (by rw[Lib.toList_data,Lib.toList_data]);generalize hX:(⟨x.toArray⟩:ByteArray)=X at *;generalize hN:(⟨nm.toArray⟩:ByteArray)=N at *;have hne:b≠w.heap.size:=by omega
 clear hX hN
 go_enter Tryz.func154,Tryz.ntmps154
 go_wp2_with fail
 go_ret
 exact⟨H.ap_ HE.o,HB.o⟩
theorem o4_(T:am_)(m:aa_)(pos:Nat->Nat)(h:Nat)(nm:List UInt8)(w:World)(hT:ag_ w T m pos)(hh:has m h=true)(hl:(nd m h).attrs.length<=1000000) :
  Calls Tryz.prog 127 #[.pointer (some ⟨T.g,pos h*10+1,none⟩),.string ⟨nm.toArray⟩] w fun e w'=>e=.returned (.int .i64 (hL_ (bj_ m h nm)))/\Below w.heap.size w w':=by
 have eg:∀args w,(callFunc 154 args).run Tryz.prog w=.ok (.enter 154 args) w:=enters_of Tryz.func154 (by kernel_rfl) rfl;have hB:=(Below.refl w.heap.size w).alloc (nl_) (.cells #[.string ⟨nm.toArray⟩] 9);have hT1:=hT.below hB;have hat:=hT1.attrs hh;rw[hT.fits.attrs h hh]at hat;have k3:World.cell? _ ⟨T.g,pos h*10+3,none⟩=some (T.sl (pos h)).attrs:=(hT1.cell hh (k:=3) (by omega)).1;have hgl:=(ad_ hT1.mem.row).1;obtain⟨ao,cap,hav⟩:=aw_.slice hat;rw[hav]at hat k3;have hcb:=(ae_ (Blk.new w #[.string ⟨nm.toArray⟩] 9)).1 0;have Q:=hi_ (g6_ _ _ _ hat hl 154 #[.pointer (some ⟨w.heap.size,0,none⟩)] eg (fun a=>a.1==nm) (fun W a ha hW=>by
  have h1:=named1 nm a.1 a.2 w.heap.size W (by have:=hW.size;simp at this;omega) ((hW.cell (p:=⟨w.heap.size,0,none⟩) (by simp)).trans hcb);exact h1.mono (fun e w' h2=>⟨h2.1,hW.trans (h2.2.mono hW.size)⟩)))
 have HB:=hi_ hB;unfold bj_;generalize (nd m h).attrs.findIdx? (fun a=>a.1==nm)=R at *;clear hT hT1 hat hB hcb
 go_enter Tryz.func127,Tryz.ntmps127
 go_wp2_with fail
 refine Q.o.mono ?_;rintro e w2 ⟨rfl,hb2⟩;go_wp2_with fail
 go_ret
 exact⟨rfl,HB.o.trans (hb2.mono HB.o.size)⟩
theorem fo_(T:am_)(z:Int)(w:World)(hT:al_ w T)(hz:-9223372036854775808<=z)(hz2:z<=9223372036854775807)(hp:T.ptr 1 z=none) :
  Calls Tryz.prog 125 #[.pointer (some ⟨T.tb,0,none⟩),.int .i64 z] w fun e w'=>e=.returned (.tuple #[.pointer none,.int .i64 6])/\Below w.heap.size w w':=by
 have Q1:=hi_ (at_ T z w hT hz hz2);rw[hp]at Q1;clear hT hp
 go_enter Tryz.func125,Tryz.ntmps125
 go_wp2_with fail
 refine Q1.o.mono ?_;rintro e w2 ⟨rfl,hb2⟩;go_wp2_with fail
 exact bodyPost_ret (v:=.tuple #[.pointer none,.int .i64 6]) (by simp[results,Tryz.results125,go_sem]) rfl ⟨rfl,hb2⟩
theorem kd_(T:am_)(m:aa_)(pos:Nat->Nat)(h:Nat)(w:World)(hT:ag_ w T m pos)(hh:has m h=true) :
  Calls Tryz.prog 125 #[.pointer (some ⟨T.tb,0,none⟩),.int .i64 (hd T pos h)] w fun e w'=>(((nd m h).kind=2/\e=.returned (.tuple #[.pointer (some ⟨T.g,pos h*10+1,none⟩),.int .i64 0]))\/((nd m h).kind≠2/\e=.returned (.tuple #[.pointer none,.int .i64 10])))/\Below w.heap.size w w':=by
 have hF:=hT.fits;have hfew:=hT.mem.few;have hbj:=bF_ hfew hF hh;have hpj:=aP_ (T:=T) (pos:=pos) h;have Q1:=hi_ (at_ T (hd T pos h) w hT.mem (by omega) (by omega));rw[bM_ hfew hF hh 1]at Q1;have HK:=hi_ (fun W (hb:Below w.heap.size w W)=>(show W.cell? ⟨T.g,pos h*10+1,none⟩=some (.int .i64 ((nd m h).kind:Nat))from by
  rw[((hT.below hb).cell hh (k:=1) (by omega)).1,<-hF.kind h hh];rfl))
 generalize (nd m h).kind=kh at *;clear hT
 go_enter Tryz.func125,Tryz.ntmps125
 go_wp2_with fail
 refine Q1.o.mono ?_;rintro e w2 ⟨rfl,hb2⟩;have k1:=HK.o w2 hb2
 by_cases c1:kh=2
 ·have e1:(((kh:Nat):Int) != 2)=false:=by rw[c1];rfl
  have e2:((kh:Nat):Int)=2:=by omega
  have HC:=hi_ c1;clear c1;go_wp2_with fail
  exact bodyPost_ret (v:=.tuple #[.pointer (some ⟨T.g,pos h*10+1,none⟩),.int .i64 0]) (by simp[results,Tryz.results125,go_sem]) rfl ⟨Or.inl ⟨HC.o,rfl⟩,hb2⟩
 have e0:(((kh:Nat):Int)==2)=false:=bn_ (by omega);have e1:(((kh:Nat):Int) != 2)=true:=by unfold bne;rw[e0];rfl
 have e2:¬((kh:Nat):Int)=2:=by omega
 have HC:=hi_ c1;clear c1;go_wp2_with fail
 exact bodyPost_ret (v:=.tuple #[.pointer none,.int .i64 10]) (by simp[results,Tryz.results125,go_sem]) rfl ⟨Or.inr ⟨HC.o,rfl⟩,hb2⟩
abbrev fz_:=T.Tabs
theorem hr_(s:List UInt8)(w:World)(hs:s.length<=1000000)(hT:fz_ w):Calls Tryz.prog 104 #[.string ⟨s.toArray⟩] w fun e w'=>e=.returned (.string ⟨(U.rep s).toArray⟩)/\Below w.heap.size w w':=by
 have h:=T.Repair ⟨s.toArray⟩ w (by rw[H.aN_];exact hs) hT;have e:(⟨s.toArray⟩:ByteArray).data.toList=s:=by simp
 rw[e]at h;exact h
theorem fQ_(s:List UInt8):(U.rep s).length<=3*s.length:=U.gW_ s
theorem ho_(m:aa_)(h:Nat)(nm vl:List UInt8) :
  ((nd m h).kind≠2->az_ (some 64) m h nm vl=([],10,m))/\((nd m h).kind=2->bE_ nm=false->az_ (some 64) m h nm vl=([],1,m)) ∧
  (∀i,(nd m h).kind=2->bE_ nm=true->bj_ m h nm=some i->az_ (some 64) m h nm vl=([aM_ h nm (((nd m h).attrs[i]?.map (·.2)).getD []) true],0,upd m h fun x=>{ x with attrs:=x.attrs.set i (nm,U.rep vl) })) ∧
  ((nd m h).kind=2->bE_ nm=true->bj_ m h nm=none->64<=(nd m h).attrs.length->az_ (some 64) m h nm vl=([],5,m)) ∧
  ((nd m h).kind=2->bE_ nm=true->bj_ m h nm=none->¬64<=(nd m h).attrs.length->az_ (some 64) m h nm vl=([aM_ h nm [] false],0,upd m h fun x=>{ x with attrs:=x.attrs++[(nm,U.rep vl)] })):=by
 refine⟨fun h1=>?_,fun h1 h2=>?_,fun i h1 h2 h3=>?_,fun h1 h2 h3 h4=>?_,fun h1 h2 h3 h4=>?_⟩
 ·unfold az_;rw[if_pos h1]
 ·unfold az_;rw[if_neg (by simpa using h1),if_pos h2]
 ·unfold az_;rw[if_neg (by simpa using h1),if_neg (by rw[h2];simp),h3]
 ·unfold az_;rw[if_neg (by simpa using h1),if_neg (by rw[h2];simp),h3];dsimp only;rw[if_pos ⟨64,rfl,h4⟩]
 unfold az_;rw[if_neg (by simpa using h1),if_neg (by rw[h2];simp),h3];dsimp only;rw[if_neg (by rintro⟨k,hk,hk2⟩;injection hk with hk;omega)]
def am_.setA(T:am_)(s:Nat)(V:Value)(al:List BB):am_:=T.modS s fun r=>{ r with attrs:=V,al:=al }
theorem al_.setA{w W:World}{T:am_}(h:al_ w T){s:Nat}{V:Value}{al:List BB}(f:H.Frame (fun k=>k=T.g) w W)(hrow:ab_ a8_ T.B 210 10 W (.slice (some ⟨T.g,0,none⟩) (T.setA s V al).slots.length T.cap) (T.setA s V al).slots)(hV:aw_ W V al):al_ W (T.setA s V al):=by
 have hlen:(T.setA s V al).slots.length=T.slots.length:=c9_ T s _;have hg1:T.tb≠T.g:=fun e=>ai_ h.row h.blk (by decide) (by rw[e];rfl);refine⟨?_,hrow,by rw[hlen];exact h.few,h.bb,ak_ h.free f (fun g hg e=>aQ_ h.free h.row (by decide) hg (by rw[e];rfl)),fun r hr=>?_⟩
 ·have h1:=h.blk.frame f hg1
  unfold gO_ at h1 ⊢;rw[hlen];exact h1
 unfold am_.setA am_.modS at hr;obtain⟨i,hi⟩:=List.mem_iff_getElem?.1 hr;rw[List.getElem?_modify]at hi
 cases h2:T.slots[i]? with
 |none=>rw[h2]at hi;split at hi<;>cases hi
 |some r0=>
  have hm:=List.mem_of_getElem? h2;rw[h2]at hi
  split at hi
  ·have e:{ r0 with attrs:=V,al:=al } = r:=by simpa using hi
   rw[<-e];exact hV
  have e:r0=r:=by simpa using hi
  rw[<-e];exact ak_ (h.attrs r0 hm) f (fun g hg e=>aQ_ (h.attrs r0 hm) h.row (by decide) hg (by rw[e];rfl))
theorem bb_.setA(T:am_)(s:Nat)(V:Value)(al:List BB):bb_ T (T.setA s V al):=bb_.modS T s (fun r=>rfl)
theorem Fits.setA{T:am_}{m:aa_}{pos:Nat->Nat}(F:Fits T m pos){h:Nat}(hh:has m h=true)(V:Value){f:G.Node->G.Node}{al:List BB}(hf:∀x,f x={ x with attrs:=(f x).attrs })(hal:al=(f (nd m h)).attrs):Fits (T.setA (pos h) V al) (upd m h f) pos:=by
 have hlt:=F.lt h hh;have L:=bb_.setA T (pos h) V al;have hsl:∀i,has m i=true->(T.setA (pos h) V al).sl (pos i)=if i=h then { T.sl (pos i)with attrs:=V,al:=al } else T.sl (pos i):=fun i hi=>bP_ F (bb_.refl T) hi hh _
 refine F.sett hh (fun x=>by rw[hf x];exact⟨rfl,rfl,rfl,rfl,rfl⟩) ⟨L.bs,L.st,L.len,L.frees,L.live,L.root,L.used,fun i hi=>?_,fun i hi=>?_,fun i hi=>?_⟩
 ·rw[hsl i hi];split<;>exact⟨rfl,rfl,rfl,rfl,rfl,rfl,rfl⟩
 ·rw[hsl i hi]
  by_cases e:i=h
  ·rw[if_pos e,if_pos e];exact hal
  rw[if_neg e,if_neg e]
 rw[hsl i hi]
 by_cases e:i=h
 ·rw[if_pos e,if_pos e,hf,e];exact F.data h hh
 rw[if_neg e,if_neg e]
theorem fG_{w:World}{T:am_}(h:ab_ a8_ T.B 210 10 w (.slice (some ⟨T.g,0,none⟩) T.slots.length T.cap) T.slots){s:Nat}(hs:s<T.slots.length)(V:Value)(al:List BB) :
  ab_ a8_ T.B 210 10 (w.setCell ⟨T.g,s*10+3,none⟩ V) (.slice (some ⟨T.g,0,none⟩) (T.setA s V al).slots.length T.cap) (T.setA s V al).slots:=
 ab_.store bv_ h hs (by omega) V (fun r=>{ r with attrs:=V,al:=al }) rfl
theorem lQ_(T:am_)(s:Nat)(V1 V2:Value)(a1 a2:List BB):(T.setA s V1 a1).setA s V2 a2=T.setA s V2 a2:=by
 unfold am_.setA am_.modS;have e:(T.slots.modify s fun r=>{ r with attrs:=V1,al:=a1 }).modify s (fun r=>{ r with attrs:=V2,al:=a2 })=T.slots.modify s fun r=>{ r with attrs:=V2,al:=a2 }:=by
  refine List.ext_getElem? fun i=>?_;rw[List.getElem?_modify,List.getElem?_modify,List.getElem?_modify]
  cases T.slots[i]? with
  |none=>simp
  |some r=>by_cases h:s=i<;>simp[h]
 dsimp only;rw[e]
def nP_(z:Int)(nm old:List UInt8)(had:Bool):Array Value:=#[.int .i64 3,.int .i64 z,.int .i64 0,.int .i64 0,.int .i64 0,.int .i64 0,.string ⟨nm.toArray⟩,.string ⟨old.toArray⟩,.bool had,.int .i64 0,.int .i64 0]
theorem fH_{T:am_}{pos:Nat->Nat}{base:Nat}{w:World}{cs:Array Value}{r:Rec}(hc:cs=(av_ T pos r).toArray)(hb:base<=w.heap.size):aD_ T pos base (w.alloc (.cells cs 73)) (.slice (some ⟨w.heap.size,0,none⟩) 1 1) [r]:=by
 have hown:=World.ownsRow_lit (e:=73) (base:=base) (size:=11) w (av_ T pos r).toArray 1 hb (by unfold maxLen;omega) (by simp[d0_]);unfold aD_ ab_;rw[hc,show[r].flatMap (av_ T pos)=av_ T pos r by simp];simpa using hown
theorem hU_(T:am_)(z:Int)(nm vl:List UInt8)(w:World)(hT:al_ w T)(hz:-9223372036854775808<=z)(hz2:z<=9223372036854775807)(hp:T.ptr 1 z=none) :
  Calls Tryz.prog 65 #[.pointer (some ⟨T.tb,0,none⟩),.int .i64 z,.string ⟨nm.toArray⟩,.string ⟨vl.toArray⟩] w fun e w'=>e=.returned (.tuple #[.slice none 0 0,.int .i64 6])/\Below w.heap.size w w':=by
 have Q1:=hi_ (fo_ T z w hT hz hz2 hp);clear hT hp
 go_enter Tryz.func65,Tryz.ntmps65
 go_wp2_with fail
 refine Q1.o.mono ?_;rintro e w2 ⟨rfl,hb2⟩;go_wp2_with fail
 exact bodyPost_ret (v:=.tuple #[.slice none 0 0,.int .i64 6]) (by simp[results,Tryz.results65,go_sem]) rfl ⟨rfl,hb2⟩
theorem nJ_(T:am_)(m:aa_)(pos:Nat->Nat)(h:Nat)(nm vl:List UInt8)(w:World)(hT:ag_ w T m pos)(hh:has m h=true)(hl:(nd m h).attrs.length<=1000)(hn:nm.length<=100000)(hv:vl.length<=100000)(hTb:fz_ w) :
  Calls Tryz.prog 65 #[.pointer (some ⟨T.tb,0,none⟩),.int .i64 (hd T pos h),.string ⟨nm.toArray⟩,.string ⟨vl.toArray⟩] w fun e w'=>∃v T',e=.returned (.tuple #[v,.int .i64 ((az_ (some 64) m h nm vl).2.1:Nat)])/\H.Frame (fun k=>k=T.g) w w'/\bb_ T T'/\ag_ w' T' (az_ (some 64) m h nm vl).2.2 pos/\aD_ T pos w.heap.size w' v (az_ (some 64) m h nm vl).1:=by
 have hF:=hT.fits;have hpl:=hF.lt h hh;have HT:=hi_ hT;have Q1:=hi_ (kd_ T m pos h w hT hh);have QN:=hi_ (fun W (hW:Below w.heap.size w W)=>N.attrName_ nm W hn (hTb.below hW));have QR:=hi_ (fun W (hW:Below w.heap.size w W)=>hr_ vl W (by omega) (hTb.below hW));have QD:=hi_ (fun W (hW:Below w.heap.size w W)=>o4_ T m pos h nm W (hT.below hW) hh (by omega));have hrl:=fQ_ vl;have hlong:decide (1048576<(U.rep vl).length)=false:=decide_eq_false (by omega);have QL:=hi_ (fun W=>N.long_ (U.rep vl) W);rw[hlong]at QL;obtain⟨ao,cap,hav⟩:=aw_.slice (hT.attrs hh);rw[hF.attrs h hh]at hav;have HA:=hi_ (fun W (hW:Below w.heap.size w W)=>(show aw_ W (.slice ao (nd m h).attrs.length cap) (nd m h).attrs from by
  have h1:=(hT.below hW).attrs hh;rw[hF.attrs h hh,hav]at h1;exact h1))
 have HK:=hi_ (fun W (hW:Below w.heap.size w W)=>(show W.cell? ⟨T.g,pos h*10+3,none⟩=some (.slice ao (nd m h).attrs.length cap)from by
  rw[<-hav];exact((hT.below hW).cell hh (k:=3) (by omega)).1))
 have HKf:=hi_ (fun W (hW:Below w.heap.size w W)=>((hT.below hW).cell hh (k:=3) (by omega)).2);have HSC:=hi_ (ho_ m h nm vl);obtain⟨R,hR⟩:∃R,R=az_ (some 64) m h nm vl:=⟨_,rfl⟩;rw[<-hR]at HSC ⊢;clear hT hR hTb hav hlong
 go_enter Tryz.func65,Tryz.ntmps65
 go_wp2_with fail
 refine Q1.o.mono ?_;rintro e w1 ⟨⟨hk,rfl⟩|⟨hk,rfl⟩,hb1⟩
 ·have HB1:=hi_ hb1
  have HKd:=hi_ hk;generalize hho:bE_ nm=ho at *;have HHo:=hi_ hho;clear hb1 hk hho Q1;go_wp2_with fail
  refine(QN.o _ HB1.o).mono ?_;rintro e w2 ⟨rfl,hb2⟩;have HB2:=bt_ HB1 hb2;clear hb2
  cases ho with
  |false=>
   have HRr:=hi_ (HSC.o.2.1 HKd.o rfl);go_wp2_with fail
   refine bodyPost_ret (v:=.tuple #[.slice none 0 0,.int .i64 1]) (by simp[results,Tryz.results65,go_sem]) rfl ⟨.slice none 0 0,T,by rw[HRr.o];rfl,H.Frame.of HB2.o,bb_.refl T,by rw[HRr.o];exact HT.o.below HB2.o,by rw[HRr.o];exact aD_.nil _ _ _ _⟩
  |true=>
   have HS3:=hi_ (fun i=>HSC.o.2.2.1 i HKd.o rfl);have HS4:=hi_ (HSC.o.2.2.2.1 HKd.o rfl);have HS5:=hi_ (HSC.o.2.2.2.2 HKd.o rfl);clear HSC;go_wp2_with fail
   refine(QR.o _ HB2.o).mono ?_;rintro e w3 ⟨rfl,hb3⟩;have HB3:=bt_ HB2 hb3;clear hb3;go_wp2_with fail
   refine(QD.o _ HB3.o).mono ?_;rintro e w4 ⟨rfl,hb4⟩;have HB4:=bt_ HB3 hb4;have k3:=HK.o w4 HB4.o;have hgl:=(ad_ (HT.o.below HB4.o).mem.row).1;clear hb4;obtain⟨rv,hrv⟩:∃rv,rv=U.rep vl:=⟨_,rfl⟩;rw[<-hrv]at HS3 HS5 QL ⊢;have HRv:=hi_ (show rv.length<=1000000 by rw[hrv];omega);clear hrv hrl
   cases hat:bj_ m h nm with
   |none=>
    have HAt:=hi_ hat;rw[show hL_ (none:Option Nat)=-1 from rfl];go_wp2_with fail
    refine(QL.o _).mono ?_;rintro e w4' ⟨rfl,rfl⟩;generalize hll:(nd m h).attrs=l at *;have HLl:=hi_ hll;clear hll hat
    by_cases h64:64<=l.length
    ·have h64':(64:Int)<=(l.length:Int):=by omega
     have HRr:=hi_ (HS4.o HAt.o h64);clear h64;go_wp2_with fail
     refine bodyPost_ret (v:=.tuple #[.slice none 0 0,.int .i64 5]) (by simp[results,Tryz.results65,go_sem]) rfl ⟨.slice none 0 0,T,by rw[HRr.o];rfl,H.Frame.of HB4.o,bb_.refl T,by rw[HRr.o];exact HT.o.below HB4.o,by rw[HRr.o];exact aD_.nil _ _ _ _⟩
    have h64':¬(64:Int)<=(l.length:Int):=by omega
    have HRr:=hi_ (HS5.o HAt.o h64);have HB5:=hi_ (HB4.o.alloc HB4.o.size (.cells (nP_ (hd T pos h) nm [] false) 73));have HR5:=hi_ (Blk.new w4 (nP_ (hd T pos h) nm [] false) 73);have QC:=hi_ (dH_ _ l _ (HA.o _ HB5.o) (by omega));have k5:=HK.o _ HB5.o;unfold nP_ at QC HB5 HR5 k5;clear h64;go_wp2_with fail
    refine QC.o.mono ?_;rintro e w6 ⟨V1,rfl,hr6,hb6⟩;have HB6:=bt_ HB5 hb6;have HR6:=hi_ (HR5.o.below hb6);have hr6':=ca_ hr6 HB5.o.size;obtain⟨bo,bcap,hV1⟩:=fJ_ hr6';subst hV1;have k6:=HK.o w6 HB6.o;have f6:=HKf.o w6 HB6.o;have hg6:=(ad_ (HT.o.below HB6.o).mem.row).1;have HRow6:=hi_ (HT.o.below HB6.o).mem.row;have HV6:=hi_ hr6';have hne6:(Value.slice bo l.length bcap).ownBlock≠some T.g:=fun e=>aQ_ HV6.o HRow6.o (by decide) e rfl;have HV7:=hi_ (au_ HV6.o hne6 (pos h*10+3) (.slice bo l.length bcap));have HRow7:=hi_ (fG_ HRow6.o hpl (.slice bo l.length bcap) l);have HF7:=hi_ (frG (g:=T.g) (H.Frame.of HB6.o) (pos h*10+3) (.slice bo l.length bcap));have hr4:w4.heap.size≠T.g:=by omega
    have HR7:=hi_ (HR6.o.far hr4 (pos h*10+3) (.slice bo l.length bcap));obtain⟨i0,hi0,hz0,hz1,hz2⟩:=info_parts hy_;have hll7:l.length<=1000:=hl;have hsz7:w.heap.size<=w6.heap.size:=HB6.o.size;clear hr6 hr6' hb6 QC HB5 HR5;go_wp2_with (at_builtin;refine wpList_append_lies _ rfl _ _ 124 rfl w.heap.size 142 i0 _ 2 32 Tryz.underlying124 hi0 hz0 hz1 hz2 rfl (by decide) (.slice bo l.length bcap) l.length (l.flatMap aj_) rfl (HV7.o.alloc _) ⟨w6.heap.size,0,none⟩ 1 1 (aj_ (nm,rv)) rfl rfl ?c1 ?c2 ?c3 ?c4 ?c5 ?c6 (w6.heap.size+1) ?c7 ?_)
    case c1=>
     have h1:=World.news_of_block (cs:=(aj_ (nm,rv)).toArray) (heap_alloc_new (w6.setCell ⟨T.g,pos h*10+3,none⟩ (.slice bo l.length bcap)) (.cells (aj_ (nm,rv)).toArray 142));rw[show(w6.setCell ⟨T.g,pos h*10+3,none⟩ (.slice bo l.length bcap)).heap.size=w6.heap.size by simp[World.setCell]]at h1;exact h1
    case c2=>exact cw_ (l:=[(nm,rv)])
    case c3=>omega
    case c4=>unfold maxLen;omega
    case c5=>omega
    case c6=>simp[World.setCell];omega
    case c7=>simp[World.setCell]
    intro gg cap2 w8 hown8 hgrow hat8 hlt8;have hgrow':((w6.setCell ⟨T.g,pos h*10+3,none⟩ (.slice bo l.length bcap)).alloc (.cells (aj_ (nm,rv)).toArray 142)).grownBy w8 (Value.slice bo l.length bcap).ownBlock:=hgrow;have HV8:=hi_ (show aw_ w8 (.slice (some ⟨gg,0,none⟩) (l.length+1) cap2) (l++[(nm,rv)])from by
     unfold aw_ ab_;rw[List.flatMap_append,show[(nm,rv)].flatMap aj_=aj_ (nm,rv) by simp,List.length_append];exact ca_ hown8 (Nat.zero_le _))
    have hrow8:=ak_ (HRow7.o.alloc (.cells (aj_ (nm,rv)).toArray 142)) (Frame.of_grown hgrow') (fun k hk e=>aQ_ HRow7.o HV7.o (by decide) hk e);have HF8:=hi_ (Frame.grown (S:=fun k=>k=T.g) (HF7.o.alloc (.cells (aj_ (nm,rv)).toArray 142)) hgrow' (fun k hk=>Or.inr (HV7.o.lt k hk).1));have HR8:=hi_ ((hgrow'.block w4.heap.size (by have:=HR7.o.lt;simp[World.setCell]at this ⊢;omega) (fun e=>ai_ HV7.o HR7.o (by decide) e.symm)).trans (HR7.o.alloc (.cells (aj_ (nm,rv)).toArray 142)));have hs8:pos h<(T.setA (pos h) (.slice bo l.length bcap) l).slots.length:=by rw[(bb_.setA T (pos h) (.slice bo l.length bcap) l).len];exact hpl
    obtain⟨k8,f8⟩:=ab_.cell bv_ hrow8 hs8 (k:=3) (by omega);have k8':w8.cell? ⟨T.g,pos h*10+3,none⟩=some ((T.setA (pos h) (.slice bo l.length bcap) l).slots[pos h]'hs8).attrs:=k8;have f8':w8.frozen? ⟨T.g,pos h*10+3,none⟩=false:=f8;have hrow9:=fG_ (T:=T.setA (pos h) (.slice bo l.length bcap) l) hrow8 hs8 (.slice (some ⟨gg,0,none⟩) (l.length+1) cap2) (l++[(nm,rv)]);rw[lQ_]at hrow9;have hneg:(Value.slice (some ⟨gg,0,none⟩) (l.length+1) cap2).ownBlock≠some T.g:=fun e=>aQ_ HV8.o hrow8 (by decide) e rfl;have hlen8:(l++[(nm,rv)]).length=l.length+1:=by simp
    have HV9:=hi_ (show aw_ (w8.setCell ⟨T.g,pos h*10+3,none⟩ (.slice (some ⟨gg,0,none⟩) (l.length+1) cap2)) (.slice (some ⟨gg,0,none⟩) (l.length+1) cap2) (l++[(nm,rv)])from au_ HV8.o hneg _ _);have HF9:=hi_ (frG (g:=T.g) HF8.o (pos h*10+3) (.slice (some ⟨gg,0,none⟩) (l.length+1) cap2));have HM9:=hi_ (al_.setA HT.o.mem HF9.o hrow9 HV9.o);have HFit:=hi_ (hF.setA hh (.slice (some ⟨gg,0,none⟩) (l.length+1) cap2) (f:=fun x=>{ x with attrs:=x.attrs++[(nm,rv)] }) (al:=l++[(nm,rv)]) (fun x=>rfl) (by rw[<-HLl.o]));have hgl8:=(ad_ hrow8).1;have hrl8:=lt_of_block HR8.o
    obtain⟨⟨r0,r1,r2,r3,r4,r5,r6,r7,r8,r9,r10⟩,_⟩:=bq_ (show Blk w4.heap.size #[.int .i64 3,.int .i64 (hd T pos h),.int .i64 0,.int .i64 0,.int .i64 0,.int .i64 0,.string ⟨nm.toArray⟩,.string ⟨#[]⟩,.bool false,.int .i64 0,.int .i64 0] 73 w8 from HR8.o);have hr4':¬w4.heap.size=T.g:=hr4;have hr4'':¬T.g=w4.heap.size:=fun e=>hr4 e.symm;clear k8 f8 hrow8 hrow9 hgrow hgrow' hown8 hat8;go_wp2_with fail
    have hz8:(w8.setCell ⟨T.g,pos h*10+3,none⟩ (.slice (some ⟨gg,0,none⟩) (l.length+1) cap2)).heap.size=w8.heap.size:=by simp[World.setCell]
    have hrec:=fH_ (T:=T) (pos:=pos) (base:=w.heap.size) (w:=w8.setCell ⟨T.g,pos h*10+3,none⟩ (.slice (some ⟨gg,0,none⟩) (l.length+1) cap2)) (r:=aM_ h nm [] false) rfl HF9.o.size;rw[hz8]at hrec;refine bodyPost_ret (v:=.tuple #[.slice (some ⟨w8.heap.size,0,none⟩) 1 1,.int .i64 0]) (by simp[results,Tryz.results65,go_sem]) rfl ⟨_,T.setA (pos h) (.slice (some ⟨gg,0,none⟩) (l.length+1) cap2) (l++[(nm,rv)]),by rw[HRr.o];rfl,HF9.o.alloc _,bb_.setA _ _ _ _,?_,?_⟩
    ·rw[HRr.o]
     exact⟨HM9.o.below ((br_).alloc (nl_) _),HFit.o⟩
    rw[HRr.o];exact hrec
   |some i=>
    have HRr:=hi_ (HS3.o i hat);rw[show hL_ (some i)=(i:Int)from rfl];obtain⟨hil,hnm,old,hold⟩:∃hil:i<(nd m h).attrs.length,((nd m h).attrs[i]'hil).1=nm/\∃old,((nd m h).attrs[i]'hil).2=old:=by
     unfold bj_ at hat;rw[List.findIdx?_eq_some_iff_getElem]at hat;obtain⟨h1,h2,_⟩:=hat;exact⟨h1,by simpa using h2,_,rfl⟩
    have HOld:Hd ((((nd m h).attrs[i]?.map (·.2)).getD [])=old):=hi_ (by rw[List.getElem?_eq_getElem hil];exact hold);have HSet:Hd ((nd m h).attrs.modify i (fun a=>(a.1,rv))=(nd m h).attrs.set i (nm,rv)):=hi_ (by
     refine List.ext_getElem? fun j=>?_;rw[List.getElem?_modify,List.getElem?_set]
     by_cases e:i=j
     ·subst e
      rw[List.getElem?_eq_getElem hil];simp[hil,hnm]
     simp[e])
    generalize hll:(nd m h).attrs=l at *;have HLl:=hi_ hll;have hiI:(i:Int)<(l.length:Int):=by omega
    have hi0:¬(i:Int)<0:=by omega
    have HIl:=hi_ hil;clear hll hat HS3 HS4 HS5;go_wp2_with fail
    refine(QL.o _).mono ?_;rintro e w4' ⟨rfl,rfl⟩;have HB5:=hi_ (HB4.o.alloc HB4.o.size (.cells (nP_ (hd T pos h) nm [] false) 73));have HR5:=hi_ (Blk.new w4 (nP_ (hd T pos h) nm [] false) 73);have QC:=hi_ (dH_ _ l _ (HA.o _ HB5.o) (by omega));have k5:=HK.o _ HB5.o;unfold nP_ at QC HB5 HR5 k5;go_wp2_with fail
    refine QC.o.mono ?_;rintro e w6 ⟨V1,rfl,hr6,hb6⟩;have HB6:=bt_ HB5 hb6;have HR6:=hi_ (HR5.o.below hb6);have hr6':=ca_ hr6 HB5.o.size;obtain⟨cg,bcap,hV1,hcg1,hcg2,hcg3⟩:=a1_ hr6' (by omega);subst hV1;have hcgb:w4.heap.size+1<=cg:=by have:=(hr6.lt cg rfl).1;simpa using this
    have k6:=HK.o w6 HB6.o;have f6:=HKf.o w6 HB6.o;have hg6:=(ad_ (HT.o.below HB6.o).mem.row).1;have HRow6:=hi_ (HT.o.below HB6.o).mem.row;have HV6:=hi_ (show ab_ aj_ w.heap.size 142 2 w6 (.slice (some ⟨cg,0,none⟩) l.length bcap) l from hr6');have hne6:(Value.slice (some ⟨cg,0,none⟩) l.length bcap).ownBlock≠some T.g:=fun e=>aQ_ HV6.o HRow6.o (by decide) e rfl;have hcgT:¬cg=T.g:=fun e=>hne6 (by rw[e];rfl);have hTcg:¬T.g=cg:=fun e=>hcgT e.symm;have hr4:w4.heap.size≠T.g:=by omega
    have hr4':¬w4.heap.size=T.g:=hr4;have hr4'':¬T.g=w4.heap.size:=fun e=>hr4 e.symm;have hr5:¬w4.heap.size=cg:=by omega
    have hr5':¬cg=w4.heap.size:=by omega
    obtain⟨c0,cf0⟩:=ab_.cell ar_ HV6.o hil (k:=0) (by omega);obtain⟨c1,cf1⟩:=ab_.cell ar_ HV6.o hil (k:=1) (by omega);have c1':w6.cell? ⟨cg,i*2+1,none⟩=some (.string ⟨old.toArray⟩):=by rw[c1,<-hold];rfl
    have HR6c:=HR6.o;obtain⟨⟨r0,r1,r2,r3,r4,r5,r6,r7,r8,r9,r10⟩,⟨q0,q1,q2,q3,q4,q5,q6,q7,q8,q9,q10⟩⟩:=bq_ HR6c;have hrl6:=HR6.o.lt;have nR:=ai_ HRow6.o HR6.o (by decide);have nV:=ai_ HV6.o HR6.o (by decide);have nC:(Value.slice (some ⟨T.g,0,none⟩) T.slots.length T.cap).ownBlock≠some cg:=fun e=>aQ_ HRow6.o HV6.o (by decide) e rfl;have hF10:H.Frame (fun k=>k=T.g) w ((((w6.setCell ⟨T.g,pos h*10+3,none⟩ (.slice (some ⟨cg,0,none⟩) l.length bcap)).setCell ⟨w4.heap.size,7,none⟩ (.string ⟨old.toArray⟩)).setCell ⟨w4.heap.size,8,none⟩ (.bool true)).setCell ⟨cg,i*2+1,none⟩ (.string ⟨rv.toArray⟩)):=
     Frame.set (Frame.set (Frame.set (frG (g:=T.g) (H.Frame.of HB6.o) (pos h*10+3) _) (Or.inr HB4.o.size) 7 _) (Or.inr HB4.o.size) 8 _) (Or.inr hcg1) (i*2+1) _
    have hrow10:=au_ (au_ (au_ (fG_ HRow6.o hpl (.slice (some ⟨cg,0,none⟩) l.length bcap) (l.set i (nm,rv))) nR 7 (.string ⟨old.toArray⟩)) nR 8 (.bool true)) nC (i*2+1) (.string ⟨rv.toArray⟩);have hV10:=ab_.store (c:=aj_) ar_ (au_ (au_ (au_ HV6.o hne6 (pos h*10+3) (.slice (some ⟨cg,0,none⟩) l.length bcap)) nV 7 (.string ⟨old.toArray⟩)) nV 8 (.bool true)) (i:=i) (k:=1) HIl.o (by omega) (.string ⟨rv.toArray⟩) (fun a=>(a.1,rv)) rfl;rw[HSet.o]at hV10;have hlm:(l.set i (nm,rv)).length=l.length:=by simp
    rw[hlm]at hV10;have hV10':=dE_ hV10;have HM10:=hi_ (al_.setA HT.o.mem hF10 hrow10 hV10');have HF10:=hi_ hF10;have HFit:=hi_ (hF.setA hh (.slice (some ⟨cg,0,none⟩) l.length bcap) (f:=fun x=>{ x with attrs:=x.attrs.set i (nm,rv) }) (al:=l.set i (nm,rv)) (fun x=>rfl) (by rw[<-HLl.o]));clear hr6 hr6' hb6 QC HB5 HR5 HR6c c0 c1 cf0 hold hnm nR nV nC hF10 hrow10 hV10 hV10' hlm;go_wp2_with fail
    have hz:((((w6.setCell ⟨T.g,pos h*10+3,none⟩ (.slice (some ⟨cg,0,none⟩) l.length bcap)).setCell ⟨w4.heap.size,7,none⟩ (.string ⟨old.toArray⟩)).setCell ⟨w4.heap.size,8,none⟩ (.bool true)).setCell ⟨cg,i*2+1,none⟩ (.string ⟨rv.toArray⟩)).heap.size=w6.heap.size:=by simp[World.setCell]
    have hrec:=fH_ (T:=T) (pos:=pos) (base:=w.heap.size) (w:=(((w6.setCell ⟨T.g,pos h*10+3,none⟩ (.slice (some ⟨cg,0,none⟩) l.length bcap)).setCell ⟨w4.heap.size,7,none⟩ (.string ⟨old.toArray⟩)).setCell ⟨w4.heap.size,8,none⟩ (.bool true)).setCell ⟨cg,i*2+1,none⟩ (.string ⟨rv.toArray⟩)) (r:=aM_ h nm old true) rfl HF10.o.size;rw[hz]at hrec;rw[HOld.o]at HRr;refine bodyPost_ret (v:=.tuple #[.slice (some ⟨w6.heap.size,0,none⟩) 1 1,.int .i64 0]) (by simp[results,Tryz.results65,go_sem]) rfl ⟨_,T.setA (pos h) (.slice (some ⟨cg,0,none⟩) l.length bcap) (l.set i (nm,rv)),by rw[HRr.o];rfl,HF10.o.alloc _,bb_.setA _ _ _ _,?_,?_⟩
    ·rw[HRr.o]
     exact⟨HM10.o.below ((br_).alloc (nl_) _),HFit.o⟩
    rw[HRr.o];exact hrec
 have HRr:=hi_ (HSC.o.1 hk);have HB1:=hi_ hb1;clear hk hb1;go_wp2_with fail
 refine bodyPost_ret (v:=.tuple #[.slice none 0 0,.int .i64 10]) (by simp[results,Tryz.results65,go_sem]) rfl ⟨.slice none 0 0,T,by rw[HRr.o];rfl,H.Frame.of HB1.o,bb_.refl T,by rw[HRr.o];exact HT.o.below HB1.o,by rw[HRr.o];exact aD_.nil _ _ _ _⟩
end A
end
section
open Go.RowKit Go.Sort
namespace R
open H G A
theorem lx_{f:Nat->List Nat}{i q c:Nat}{l:List Nat}(hx:l[q]?=some c):i :: (l.take (q+1)).flatMap f=(i :: (l.take q).flatMap f)++f c:=by
 rw[List.take_add_one,hx,List.flatMap_append];simp
theorem walk_lt{m:aa_}(W:WF m)(h:Nat):h<m.length->∀i,i∈walk m h->i<m.length:=by
 refine W.down_ind (P:=fun h=>h<m.length->∀i,i∈walk m h->i<m.length) (fun h ih hh i hi=>?_) h;rw[W.walk_eq]at hi
 rcases List.mem_cons.1 hi with e|hi
 ·rw[e];exact hh
 obtain⟨c,hc,hi⟩:=List.mem_flatMap.1 hi;exact ih c hc (W.kid h c hc).1 i hi
theorem jC_{m:aa_}(W:WF m){h:Nat}(hh:h<m.length):(walk m h).length<=m.length:=by
 have h1:(walk m h).length<=(List.range m.length).length:=List.Nodup.length_le_of_subset (A.WF.walk_nodup W h) (fun x hx=>List.mem_range.2 (walk_lt W h hh x hx))
 rwa [List.length_range]at h1
theorem mWalk(M:aJ_)(w0:World)(h0:ac_ w0 M)(W:WF M.m):∀(n i:Nat) (w:World),Below w0.heap.size w0 w->ay_ M.m i<=n->i<M.nodes.length->Calls Tryz.prog 134 #[.pointer (some ⟨M.mb,0,none⟩),.int .i64 i] w fun e w'=>∃v,e=.returned v/\Below w.heap.size w w'/\cd_ w.heap.size w' v (walk M.m i):=by
 intro n
 induction n with
 |zero=>
  intro i w hb hn hi;rw[W.height_eq i]at hn;omega
 |succ n ih=>
 intro i w hb0 hn hi;have h:=h0.below hb0;have HM:=hi_ h;obtain⟨c0,l0,l1⟩:=h.top;have k5:=(h.cell hi).2.2.2.2.2.1;obtain⟨ao,cap,hv,hc⟩:=cd_.form (h.kidsRow hi);rw[hv]at k5;have n1:(i:Int)<(M.nodes.length:Int):=by omega
 have HB0:=hi_ hb0;have IH:=hi_ (fun(c:Nat) (hc:c∈(nd M.m i).kids) (W1:World) (hb:Below w.heap.size w W1)=>ih c W1 (hb0.trans (hb.mono hb0.size)) (by have:=W.height_kid hc;omega) (by rw[<-M.m_len];exact(W.kid i c hc).1));have HE:=hi_ (W.walk_eq i);have hfew:=h.few;have hwl:=jC_ W (h:=i) (by rw[M.m_len];exact hi);rw[M.m_len]at hwl;have hln:(nd M.m i).kids.length<=1000000:=by
  have h1:(nd M.m i).kids.length<=(List.range M.nodes.length).length:=List.Nodup.length_le_of_subset (W.nodup i) (fun x hx=>List.mem_range.2 (by rw[<-M.m_len];exact(W.kid i x hx).1));rw[List.length_range]at h1;omega
 have HWl:Hd (∀q,(i :: ((nd M.m i).kids.take q).flatMap (walk M.m)).length<=1000000):=hi_ (fun q=>by
  have h1:(i :: (nd M.m i).kids.flatMap (walk M.m)).length<=1000000:=by rw[<-W.walk_eq];omega
  have h2:((nd M.m i).kids.take q).flatMap (walk M.m)++((nd M.m i).kids.drop q).flatMap (walk M.m)=(nd M.m i).kids.flatMap (walk M.m):=by rw[<-List.flatMap_append,List.take_append_drop]
  have h3:=congrArg List.length h2;rw[List.length_append]at h3;simp only[List.length_cons]at h1 ⊢
  omega)
 have HKc:=hi_ (fun W1 (hb:Below w.heap.size w W1)=>(h.below hb).cell hi);obtain⟨wk,hwk⟩:∃wk,wk=walk M.m i:=⟨_,rfl⟩;rw[<-hwk]at HE ⊢;have HC:=hi_ (fun W1 (hb:Below w.heap.size w W1)=>cd_.form ((h.below hb).kidsRow hi));have HV:=hi_ hv;generalize hl:(nd M.m i).kids=l at *;generalize hlen:l.length=len at *;have HLen:=hi_ hlen;obtain⟨i0,hi0,hz0,hz1,hz2⟩:=info_parts dh_;clear ih h hn hi hv hc hl hlen hwk hwl hb0 h0
 go_enter Tryz.func134,Tryz.ntmps134
 go_wp2_with fail
 have HBl:=hi_ ((Below.refl w.heap.size w).alloc (nl_) (.cells #[.int .i64 i] 3));have HOl:Hd (cd_ w.heap.size (w.alloc (.cells #[.int .i64 i] 3)) (.slice (some ⟨w.heap.size,0,none⟩) [i].length 1) [i]):=hi_ (by
  have h1:=World.ownsRow_lit (e:=3) (base:=w.heap.size) (size:=1) w #[.int .i64 i] 1 (nl_) (by unfold maxLen;omega) (by simp);simpa[cd_,aF_]using h1)
 generalize w.alloc (.cells #[.int .i64 i] 3)=w2 at *;clear k5 c0 l0 l1
 go_loopw [5,6] (fun v5 v6 wr=>∃(q:Nat) (go:Option Addr) (gc:Nat),v5=.slice go (i :: (l.take q).flatMap (walk M.m)).length gc/\v6=.int .i64 (q:Nat)/\q<=len/\Hd (Below w.heap.size w wr)/\Hd (cd_ w.heap.size wr (.slice go (i :: (l.take q).flatMap (walk M.m)).length gc) (i :: (l.take q).flatMap (walk M.m)))) (fun _ v6 _=>len-(a2_ v6).toNat)
 case atStart=>exact⟨0,_,_,rfl,rfl,by omega,HBl,HOl⟩
 obtain⟨q,go,gc,rfl,rfl,hq0,HB,HO⟩:=hrel;obtain⟨c0,l0,l1⟩:=(HM.o.below HB.o).top;have k5:=(HKc.o wr HB.o).2.2.2.2.2.1;rw[HV.o]at k5;generalize hpre:i :: (l.take q).flatMap (walk M.m)=pre at *;have HPre:=hi_ hpre
 by_cases hq:q=len
 ·have HF:Hd (wk=pre):=hi_ (by rw[HE.o,<-hpre,hq,List.take_of_length_le (by rw[HLen.o];omega)])
  generalize hpl:pre.length=pl at *;clear hpl hpre;have hnl:¬((q:Int)<(len:Int)):=by omega
  clear hq;go_wp2_with fail
  go_ret
  exact⟨_,rfl,HB.o,by rw[HF.o];exact HO.o⟩
 have hil:q<l.length:=by rw[HLen.o];omega
 have hlt:(q:Int)<(len:Int):=by omega
 have hx:l[q]?=some l[q]:=List.getElem?_eq_getElem hil;obtain⟨ao2,cap2,hv2,hcs⟩:=HC.o wr HB.o;rw[HV.o]at hv2;obtain⟨g,hao,hg1,hcell⟩:=hcs _ _ hx;injection hv2 with e1 e2 e3
 subst e1;subst hao;have htk:=lx_ (f:=walk M.m) (i:=i) hx;rw[hpre]at htk;have Q3:=hi_ (IH.o _ (List.mem_of_getElem? hx) wr HB.o);have hwc:=W.walk_eq l[q];have HWq:=hi_ (HWl.o (q+1));rw[htk]at HWq;have HTk:=hi_ htk;generalize l[q]=c at *;have HWc:=hi_ hwc;have wq:IntKind.i64.wrap ((q:Int)+1)=(q:Int)+1:=IntWalk.i64_in _ (by omega);clear hx hil hq htk hwc hcs hpre e2 e3;go_wp2_with fail
 refine Q3.o.mono ?_;rintro e w3 ⟨v3,rfl,hb3,hown3⟩;have hb3':=HB.o.trans (hb3.mono HB.o.size);obtain⟨g3,cap3,hv3,hg3b,hg3l,hcap3⟩:=a1_ hown3 (by rw[HWc.o];simp);subst hv3;have HO3:=hi_ (own_below HO.o hb3);have hc3:=ad_ hown3;have hln3:=HWq.o;rw[List.length_append]at hln3;generalize hcl:(walk M.m c).length=cl at *;generalize hpl:pre.length=pl at *;have HCl:=hi_ hcl;have HPl:=hi_ hpl;have hcl0:0<cl:=by rw[<-hcl,HWc.o];simp
 have HB3:=hi_ hb3';have hsz3:=hb3'.size;clear hcl hpl hb3 hb3' Q3 HO HB hown3 k5;have HNw:Hd (∀j u,(aF_ (walk M.m c))[j]?=some u->w3.cell? ((⟨g3,0,none⟩:Addr).add j)=some u):=hi_ (fun j u hu=>by
  rw[dK_,Nat.zero_add];have hj:j<(aF_ (walk M.m c)).length:=by
   rcases Nat.lt_or_ge j (aF_ (walk M.m c)).length with h2|h2
   ·exact h2
   rw[List.getElem?_eq_none h2]at hu;cases hu
  rw[(hc3.2.2.2 j hj).1,hu])
 have HO3':Hd (w3.ownsRow w.heap.size 3 1 (.slice go pl gc) pl (aF_ pre)):=hi_ (by
  have h1:=HO3.o;unfold cd_ at h1;exact h1)
 clear hc3;go_wp2_with (at_builtin;refine wpList_append_lies _ rfl _ _ 39 rfl w.heap.size 3 i0 _ 1 8 Tryz.underlying39 hi0 hz0 hz1 hz2 rfl (by decide) (.slice go pl gc) pl (aF_ pre) rfl HO3'.o ⟨g3,0,none⟩ cl cap3 (aF_ (walk M.m c)) rfl ?c0 HNw.o (bl_ _) hcl0 ?c4 ?c5 ?c6 w3.heap.size rfl ?_)
 case c0=>unfold aF_;rw[List.length_map,HCl.o];omega
 case c4=>unfold maxLen;omega
 case c5=>omega
 case c6=>omega
 intro gg cap5 w5 hown5 hgrow hat5 hlt5;have HB5:=hi_ (HB3.o.grown hgrow hsz3 (fun k hk=>(HO3'.o.lt k hk).1));have HO5:Hd (cd_ w.heap.size w5 (.slice (some ⟨gg,0,none⟩) (pl+cl) cap5) (pre++walk M.m c)):=hi_ (by
  unfold cd_;have e1:aF_ (pre++walk M.m c)=aF_ pre++aF_ (walk M.m c):=by unfold aF_;rw[List.map_append]
  rw[List.length_append,HPl.o,HCl.o,e1];exact hown5)
 clear hown5 hgrow hat5 HO3 HO3' HNw;go_wp2_with fail
 go_roundw
 case rel=>
  have hln:(i :: (l.take (q+1)).flatMap (walk M.m)).length=pl+cl:=by rw[HTk.o,List.length_append,HPl.o,HCl.o]
  refine⟨q+1,some ⟨gg,0,none⟩,cap5,by rw[hln],by go_num,by omega,HB5,hi_ ?_⟩;rw[hln,HTk.o];exact HO5.o
 simp[a2_];omega
def gG_(m:aa_)(ks:List Nat):aa_:=m.mapIdx fun i x=>{ x with gone:=x.gone || ks.contains i }
theorem mN_(m:aa_):gG_ m []=m:=by
 unfold gG_;apply List.ext_getElem?;intro k;rw[List.getElem?_mapIdx]
 cases m[k]? with
 |none=>rfl
 |some x=>simp
theorem k2_(m:aa_)(ks:List Nat)(c:Nat):upd (gG_ m ks) c (fun x=>{ x with gone:=true })=gG_ m (ks++[c]):=by
 unfold gG_ upd;apply List.ext_getElem?;intro k;rw[List.getElem?_modify,List.getElem?_mapIdx,List.getElem?_mapIdx]
 cases m[k]? with
 |none=>simp
 |some x=>
  by_cases e:c=k
  ·subst e;simp
  have e2:¬k=c:=fun h=>e h.symm;simp[e,e2]
theorem k1_{w:World}{M:aJ_}(h:ac_ w M){i:Nat}(hi:i<M.nodes.length) :
  ac_ (w.setCell ⟨M.g,i*7+6,none⟩ (.bool true)) (M.modN i fun x=>{ x with n:={ x.n with gone:=true } })/\(M.modN i fun x=>{ x with n:={ x.n with gone:=true } }).m=upd M.m i (fun x=>{ x with gone:=true })/\aO_ w M (M.modN i fun x=>{ x with n:={ x.n with gone:=true } }):=by
 refine⟨h.storeP hi (by omega) (.bool true) _ rfl ⟨rfl,rfl,rfl,rfl⟩,el_ M i _ (fun x=>{ x with gone:=true }) (fun x=>rfl),rfl,rfl,fun k hk=>?_⟩
 rcases b5_ hi hk with h1|h1|h1
 ·exact Or.inl h1
 ·exact Or.inl (Or.inr (Or.inr ⟨_,(aJ_.at_mem hi).2,Or.inl h1⟩))
 exact Or.inl (Or.inr (Or.inr ⟨_,(aJ_.at_mem hi).2,Or.inr h1⟩))
theorem aO_.step{w:World}{M M' M2:aJ_}{w':World}(h:aO_ w M M')(k:aO_ w' M' M2)(hs:w.heap.size<=w'.heap.size):aO_ w M M2:=
 ⟨k.mb.trans h.mb,k.B.trans h.B,fun b hb=>(k.foot b hb).elim (fun h1=>h.foot b h1) (fun h1=>Or.inr (by omega))⟩
theorem mDrop(M:aJ_)(h:Nat)(w:World)(hM:ac_ w M)(W:WF M.m)(hh:h<M.nodes.length) :
  Calls Tryz.prog 73 #[.pointer (some ⟨M.mb,0,none⟩),.int .i64 h] w fun e w'=>∃M',e=.returned (.int .i64 ((cA_ M.m h).1:Nat))/\H.Frame (fun k=>k=M.g) w w'/\ac_ w' M'/\M'.m=(cA_ M.m h).2/\aO_ w M M':=by
 obtain⟨c0,l0,l1⟩:=hM.top;have k4:=(hM.cell hh).2.2.2.2.1;have n1:(h:Int)<(M.nodes.length:Int):=by omega
 have hfew:=hM.few;have hk1:=hx_ W (h:=h) (by rw[M.m_len];exact hh);have HM:=hi_ hM;have QW:=hi_ (mWalk M w hM W (ay_ M.m h) h w (br_) (nl_) hh);have hwl:=jC_ W (h:=h) (by rw[M.m_len];exact hh);rw[M.m_len]at hwl;have HIn:=hi_ (walk_lt W h (by rw[M.m_len];exact hh));obtain⟨R,hR⟩:∃R,R=cA_ M.m h:=⟨_,rfl⟩;have HRr:Hd (R=if (nd M.m h).parent≠none\/(nd M.m h).kind=1 then(7,M.m) else(0,gG_ M.m (walk M.m h))):=hi_ hR;rw[<-hR];generalize (nd M.m h).kind=kd at *;generalize (nd M.m h).parent=par at *;generalize hl:walk M.m h=l at *;generalize hlen:l.length=len at *;have HLen:=hi_ hlen;have k4':w.cell? ⟨M.g,h*7+4,none⟩=some (.int .i64 (ch_ par)):=k4;clear hM hR hl hlen k4
 go_enter Tryz.func73,Tryz.ntmps73
 by_cases h0:h=0
 ·have HRs:Hd (R=(7,M.m)):=hi_ (by rw[HRr.o,if_pos (Or.inr (hk1.2 h0))])
  clear hk1 HRr;subst h0;go_wp2_with fail
  go_ret
  exact⟨M,by rw[HRs.o];rfl,H.Frame.refl _ _,HM.o,by rw[HRs.o],aO_.refl _ _⟩
 have h0':¬((h:Int)=0):=by omega
 have h0b:((h:Int)==0)=false:=bn_ h0';have hkd:¬kd=1:=fun e=>h0 (hk1.1 e);clear hk1
 cases par with
 |some p=>
  have HRs:Hd (R=(7,M.m)):=hi_ (by rw[HRr.o,if_pos (Or.inl (by simp))]);have hp:(0:Int)<=ch_ (some p):=by show(0:Int)<=(p:Int);omega
  clear HRr;go_wp2_with fail
  go_ret
  exact⟨M,by rw[HRs.o];rfl,H.Frame.refl _ _,HM.o,by rw[HRs.o],aO_.refl _ _⟩
 |none=>
  have HRs:Hd (R=(0,gG_ M.m l)):=hi_ (by rw[HRr.o,if_neg (by simp[hkd])]);have hp:ch_ none=-1:=rfl;rw[hp]at k4';clear HRr;go_wp2_with fail
  refine QW.o.mono ?_;rintro e w2 ⟨v,rfl,hb2,hown⟩;obtain⟨ao,cap,hv,hc⟩:=cd_.form hown;rw[HLen.o]at hv;subst hv;have HM2:=hi_ (HM.o.below hb2);have HO2:=hi_ hown;have HF2:=hi_ (H.Frame.of (S:=fun k=>k=M.g) hb2);clear hown hc k4' c0 QW;go_wp2_with fail
  go_loopw [6] (fun v6 wr=>∃(q:Nat) (M':aJ_),v6=.int .i64 (q:Nat)/\q<=len/\Hd (ac_ wr M')/\Hd (M'.m=gG_ M.m (l.take q))/\Hd (aO_ w M M'/\M'.g=M.g/\M'.nodes.length=M.nodes.length)/\Hd (H.Frame (fun k=>k=M.g) w wr)/\Hd (cd_ w.heap.size wr (.slice ao len cap) l)) (fun v6 _=>len-(a2_ v6).toNat)
  case atStart=>exact⟨0,M,rfl,by omega,HM2,hi_ (by rw[List.take_zero,mN_]),hi_ ⟨aO_.refl _ _,rfl,rfl⟩,HF2,HO2⟩
  obtain⟨q,M',rfl,hq0,HMq,HMm,HML,HFq,HOq⟩:=hrel
  by_cases hq:q=len
  ·have HF:Hd (M'.m=gG_ M.m l):=hi_ (by rw[HMm.o,hq,List.take_of_length_le (by rw[HLen.o];omega)])
   have hnl:¬((q:Int)<(len:Int)):=by omega
   clear hq;go_wp2_with fail
   go_ret
   exact⟨by rw[HRs.o];rfl,HFq.o,M',HMq.o,by rw[HF.o,HRs.o],HML.o.1⟩
  have hil:q<l.length:=by rw[HLen.o];omega
  have hlt:(q:Int)<(len:Int):=by omega
  have hx:l[q]?=some l[q]:=List.getElem?_eq_getElem hil;obtain⟨ao2,cap2,hv2,hcs⟩:=cd_.form HOq.o;obtain⟨g,hao,hg1,hcell⟩:=hcs _ _ hx;rw[HLen.o]at hv2;injection hv2 with e1 e2 e3
  subst e1 e3;subst hao;have hcl:l[q]<M'.nodes.length:=by rw[HML.o.2.2,<-M.m_len];exact HIn.o _ (List.getElem_mem hil)
  have HTk:Hd (l.take (q+1)=l.take q++[l[q]]):=hi_ (by rw[List.take_add_one,hx];rfl);generalize l[q]=c at *;obtain⟨hs1,hs2,hs3⟩:=k1_ HMq.o hcl;have k6:=(HMq.o.cell hcl).2.2.2.2.2.2;have f6:=(ab_.cell aV_ HMq.o.row hcl (k:=6) (by omega)).2;obtain⟨d0,m0,m1⟩:=HMq.o.top;have hg2:=HML.o.2.1;have hmb:=HML.o.1.mb;rw[hg2]at k6 f6 d0 m1 hs1;rw[hmb]at d0 m0;have HS1:=hi_ hs1;have HS2:Hd ((M'.modN c fun x=>{ x with n:={ x.n with gone:=true } }).m=gG_ M.m (l.take (q+1))):=hi_ (by rw[hs2,HMm.o,k2_,HTk.o])
  have HS3:=hi_ (show aO_ w M (M'.modN c fun x=>{ x with n:={ x.n with gone:=true } })/\(M'.modN c fun x=>{ x with n:={ x.n with gone:=true } }).g=M.g/\(M'.modN c fun x=>{ x with n:={ x.n with gone:=true } }).nodes.length=M.nodes.length from ⟨HML.o.1.step hs3 HFq.o.size,hg2,by rw[cC_,HML.o.2.2]⟩);have HF3:=hi_ (frG (g:=M.g) HFq.o (c*7+6) (.bool true));have HO3:=hi_ (show cd_ w.heap.size (wr.setCell ⟨M.g,c*7+6,none⟩ (.bool true)) (.slice (some ⟨g,0,none⟩) len cap) l from au_ HOq.o (fun e=>by
   have h5:=(World.ownsRow.lt HOq.o M.g e).1
   omega) _ _)
  have n2:(c:Int)<(M'.nodes.length:Int):=by omega
  have wq:IntKind.i64.wrap ((q:Int)+1)=(q:Int)+1:=IntWalk.i64_in _ (by omega);clear hx hil hq hs1 hs2 hs3 hcs e2 hg2 hmb hcl;go_upto_region 7 with fail
  go_region
  all_goals (
   go_wp2_with fail
   go_roundw
   case rel=>exact⟨q+1,_,by go_num,by omega,hi_ (HS1.o.below (br_).drew),HS2,HS3,hi_ (HF3.o.below_ (br_).drew),hi_ (own_below HO3.o (br_).drew)⟩
   simp[a2_];omega)
theorem df_(b:UInt8)(n:Nat)(h:n<256):((b.toNat:Int)==(n:Int))=(b==UInt8.ofNat n):=by
 rw[Bool.eq_iff_iff];simp only[beq_iff_eq];constructor
 ·intro e
  have e':b.toNat=n:=by omega
  rw[<-e'];simp
 intro e;subst e;simp;omega
theorem nN_(b:UInt8)(w:World) :
  Calls Tryz.prog 166 #[.int .u8 b.toNat] w fun e w'=>e=.returned (.bool (G.spB b))/\w=w':=by
 have e1:=df_ b 9 (by omega);have e2:=df_ b 10 (by omega);have e3:=df_ b 12 (by omega);have e4:=df_ b 13 (by omega);have e5:=df_ b 32 (by omega);have hsp:G.spB b=((b==9) || (b==10) || (b==12) || (b==13) || (b==32)):=rfl;rw[hsp];clear hsp
 cases h1:(b==9) with
 |true=>
  have t1:((b.toNat:Int)==9)=true:=e1.trans h1;clear e1 e2 e3 e4 e5 h1
  go_enter Tryz.func166,Tryz.ntmps166
  go_wp2
  go_ret
  exact⟨rfl,rfl⟩
 |false=>
 have t1:((b.toNat:Int)==9)=false:=e1.trans h1
 cases h2:(b==10) with
 |true=>
  have t2:((b.toNat:Int)==10)=true:=e2.trans h2;clear e1 e2 e3 e4 e5 h1 h2
  go_enter Tryz.func166,Tryz.ntmps166
  go_wp2
  go_ret
  exact⟨rfl,rfl⟩
 |false=>
 have t2:((b.toNat:Int)==10)=false:=e2.trans h2
 cases h3:(b==12) with
 |true=>
  have t3:((b.toNat:Int)==12)=true:=e3.trans h3;clear e1 e2 e3 e4 e5 h1 h2 h3
  go_enter Tryz.func166,Tryz.ntmps166
  go_wp2
  go_ret
  exact⟨rfl,rfl⟩
 |false=>
 have t3:((b.toNat:Int)==12)=false:=e3.trans h3
 cases h4:(b==13) with
 |true=>
  have t4:((b.toNat:Int)==13)=true:=e4.trans h4;clear e1 e2 e3 e4 e5 h1 h2 h3 h4
  go_enter Tryz.func166,Tryz.ntmps166
  go_wp2
  go_ret
  exact⟨rfl,rfl⟩
 |false=>
 have t4:((b.toNat:Int)==13)=false:=e4.trans h4
 cases h5:(b==32) with
 |true=>
  have t5:((b.toNat:Int)==32)=true:=e5.trans h5;clear e1 e2 e3 e4 e5 h1 h2 h3 h4 h5
  go_enter Tryz.func166,Tryz.ntmps166
  go_wp2
  go_ret
  exact⟨rfl,rfl⟩
 |false=>
  have t5:((b.toNat:Int)==32)=false:=e5.trans h5;clear e1 e2 e3 e4 e5 h1 h2 h3 h4 h5
  go_enter Tryz.func166,Tryz.ntmps166
  go_wp2
  go_ret
  exact⟨rfl,rfl⟩
theorem dp_(l:List UInt8)(w:World)(h:l.length<=1000000) :
  Calls Tryz.prog 113 #[.string ⟨l.toArray⟩] w fun e w'=>e=.returned (.string ⟨(U.rep l).toArray⟩)/\Below w.heap.size w w':=by
 have h2:=T.refRepair ⟨l.toArray⟩ w (by rw[H.aN_];omega);have hd:(⟨l.toArray⟩:ByteArray).data.toList=l:=by simp
 rw[hd]at h2;exact h2
theorem jd_{s:List UInt8}{i:Nat}(hi:i<s.length)(h:lv_ s[i]=true):cL_ s=false:=by
 unfold cL_;have:s.all (fun c=>!lv_ c)=false:=by
  rw[List.all_eq_false];exact⟨s[i],List.getElem_mem hi,by simp[h]⟩
 rw[this];simp
theorem nF_{s:List UInt8}{i:Nat}(hi:i<s.length)(h:(s.take i).all (fun c=>!lv_ c)=true)(hb:lv_ s[i]=false):(s.take (i+1)).all (fun c=>!lv_ c)=true:=by
 rw[List.take_add_one,List.getElem?_eq_getElem hi,List.all_append,h];simp[hb]
theorem g4_(s:List UInt8)(w:World)(hs:s.length<=100000) :
  Calls Tryz.prog 152 #[.string ⟨s.toArray⟩] w fun e w'=>e=.returned (.bool (cL_ s))/\Below w.heap.size w w':=by
 obtain⟨S,hS⟩:∃S:ByteArray,S=⟨s.toArray⟩:=⟨_,rfl⟩;rw[<-hS];have hsz:S.size=s.length:=by rw[hS];exact H.aN_ s
 have HGet:Hd (∀i (h:i<s.length) (h':i<S.size),S[i]'h'=s[i]):=hi_ (by subst hS;exact fun i h h'=>rfl);have QR:Hd (∀W,Calls Tryz.prog 113 #[.string S] W fun e w'=>e=.returned (.string ⟨(U.rep s).toArray⟩)/\Below W.heap.size W w'):=hi_ (by rw[hS];exact fun W=>dp_ s W (by omega));have HEq:Hd (((⟨(U.rep s).toArray⟩:ByteArray).toList==S.toList)=decide (U.rep s=s)):=hi_ (by rw[hS,Lib.toList_data,Lib.toList_data,Bool.eq_iff_iff];simp);have HEm:Hd ((S.toList==[])=s.isEmpty):=hi_ (by rw[hS,Lib.toList_data];cases s<;>simp);clear hS
 go_enter Tryz.func152,Tryz.ntmps152
 go_wp2_with fail
 go_loopw [3] (fun v3 wr=>∃i:Nat,v3=.int .i64 (i:Nat)/\i<=s.length/\wr=w/\Hd ((s.take i).all (fun c=>!lv_ c)=true)) (fun v3 _=>s.length-(Go.RowKit.intOf v3).toNat)
 case atStart=>exact⟨0,rfl,Nat.zero_le _,rfl,hi_ (by simp)⟩
 obtain⟨i,rfl,hi,rfl,HA⟩:=hrel
 rcases Nat.lt_or_ge i s.length with hlt|hge
 ·have hii:(i:Int)<(s.length:Int):=by omega
  have HStop:=hi_ (fun(hb:lv_ s[i]=true)=>jd_ hlt hb);have HGo:=hi_ (fun(hb:lv_ s[i]=false)=>nF_ hlt HA.o hb);have hc:=HGet.o i hlt (by rw[hsz];exact hlt);generalize s[i]=c at *;go_upto_region 5 with fail
  clear hc;have QS:=hi_ (nN_ c wr);have e2:=df_ c 47 (by omega);have e3:=df_ c 62 (by omega);have HBd:Hd (lv_ c=(spB c || c==47 || c==62 || (decide (65<=c.toNat) && decide (c.toNat<=90)))):=hi_ rfl;have d4:decide (65<=c.toNat)=decide ((65:Int)<=(c.toNat:Int)):=decide_eq_decide.2 (by omega);have d5:decide (c.toNat<=90)=decide ((c.toNat:Int)<=90):=decide_eq_decide.2 (by omega);rw[d4,d5]at HBd;have e2':(c==47)=((c.toNat:Int)==47):=e2.symm;have e3':(c==62)=((c.toNat:Int)==62):=e3.symm;rw[e2',e3']at HBd;clear e2 e3 e2' e3' d4 d5;generalize spB c=b1 at *;have wq:IntKind.i64.wrap ((i:Int)+1)=(i:Int)+1:=IntWalk.i64_in _ (by omega);generalize h2:((c.toNat:Int)==47)=b2 at *;generalize h3:((c.toNat:Int)==62)=b3 at *
  generalize h4:decide ((65:Int)<=(c.toNat:Int))=b4 at *;generalize h5:decide ((c.toNat:Int)<=90)=b5 at *
  cases b1 with
  |true=>
   have HF:=hi_ (HStop.o (by rw[HBd.o];rfl));go_wp2_with fail
   refine QS.o.mono ?_;rintro e w1 ⟨rfl,rfl⟩;go_wp2_with fail
   go_ret
   exact⟨H.ap_ HF.o.symm,br_⟩
  |false=>
   go_wp2_with fail
   refine QS.o.mono ?_;rintro e w1 ⟨rfl,rfl⟩
   cases b2 with
   |true=>
    have HF:=hi_ (HStop.o (by rw[HBd.o];rfl));go_wp2_with fail
    go_ret
    exact⟨H.ap_ HF.o.symm,br_⟩
   |false=>
   cases b3 with
   |true=>
    have HF:=hi_ (HStop.o (by rw[HBd.o];rfl));go_wp2_with fail
    go_ret
    exact⟨H.ap_ HF.o.symm,br_⟩
   |false=>
   cases b4 with
   |false=>
    have h4':¬(65:Int)<=(c.toNat:Int):=of_decide_eq_false h4;have HG:=hi_ (HGo.o (by rw[HBd.o];rfl));go_wp2_with fail
    go_roundw
    case rel=>exact⟨i+1,by go_num,by omega,trivial,HG⟩
    simp[Go.RowKit.intOf];omega
   |true=>
    have h4':(65:Int)<=(c.toNat:Int):=of_decide_eq_true h4
    cases b5 with
    |true=>
     have h5':(c.toNat:Int)<=90:=of_decide_eq_true h5;have HF:=hi_ (HStop.o (by rw[HBd.o];rfl));go_wp2_with fail
     go_ret
     exact⟨H.ap_ HF.o.symm,br_⟩
    |false=>
     have h5':¬(c.toNat:Int)<=90:=of_decide_eq_false h5;have HG:=hi_ (HGo.o (by rw[HBd.o];rfl));go_wp2_with fail
     go_roundw
     case rel=>exact⟨i+1,by go_num,by omega,trivial,HG⟩
     simp[Go.RowKit.intOf];omega
 have hie:i=s.length:=by omega
 have HN:Hd (cL_ s=(!s.isEmpty && decide (U.rep s=s))):=hi_ (by
  have h1:=HA.o;rw[hie,List.take_length]at h1;unfold cL_;rw[h1];simp)
 generalize s.isEmpty=b1 at *;generalize decide (U.rep s=s)=b2 at *;generalize (⟨(U.rep s).toArray⟩:ByteArray)=S2 at *;have hem:=HEm.o;have heq:=HEq.o;have hnl:¬((i:Int)<(s.length:Int)):=by omega
 clear HA HEm HEq HGet hie
 cases b1 with
 |true=>
  have HF:Hd (cL_ s=false):=hi_ (by rw[HN.o];rfl);go_wp2_with fail
  go_ret
  exact⟨H.ap_ HF.o.symm,br_⟩
 |false=>
  have HF:Hd (cL_ s=b2):=hi_ (by rw[HN.o];simp);go_wp2_with fail
  refine(QR.o _).mono ?_;rintro e w1 ⟨rfl,b⟩;have HB:=hi_ b;clear b;go_wp2_with fail
  go_ret
  exact⟨H.ap_ HF.o.symm,HB.o⟩
theorem n5_(s:List UInt8)(w:World)(hs:s.length<=100000) :
  Calls Tryz.prog 111 #[.string ⟨s.toArray⟩] w fun e w'=>e=.returned (.bool (dc_ s))/\Below w.heap.size w w':=by
 obtain⟨S,hS⟩:∃S:ByteArray,S=⟨s.toArray⟩:=⟨_,rfl⟩;rw[<-hS];have hsz:S.size=s.length:=by rw[hS];exact H.aN_ s
 have HGet:Hd (∀i (h:i<s.length) (h':i<S.size),S[i]'h'=s[i]):=hi_ (by subst hS;exact fun i h h'=>rfl);have QA:Hd (∀W,Calls Tryz.prog 152 #[.string S] W fun e w'=>e=.returned (.bool (cL_ s))/\Below W.heap.size W w'):=hi_ (by rw[hS];exact fun W=>g4_ s W hs);have HEm:Hd ((S.toList==[])=s.isEmpty):=hi_ (by rw[hS,Lib.toList_data];cases s<;>simp);clear hS;have hem:=HEm.o;have HV:Hd (dc_ s=((match s with | []=>false|c :: _=>decide (97<=c.toNat) && decide (c.toNat<=122)) && cL_ s)):=hi_ rfl;generalize dc_ s=V at *;generalize cL_ s=N at *
 cases s with
 |nil=>
  have hem2:(S.toList==[])=true:=hem;have HF:Hd (V=false):=hi_ (by rw[HV.o];rfl);clear hem
  go_enter Tryz.func111,Tryz.ntmps111
  go_wp2_with fail
  go_ret
  exact⟨H.ap_ HF.o.symm,br_⟩
 |cons c t=>
  have hem2:(S.toList==[])=false:=hem;have hl1:0<S.size:=by rw[hsz];simp
  have hl0:(0:Int)<(S.size:Int):=by omega
  have hc:S[0]'hl1=c:=HGet.o 0 (by simp) hl1;have d4:decide (97<=c.toNat)=decide ((97:Int)<=(c.toNat:Int)):=decide_eq_decide.2 (by omega);have d5:decide (c.toNat<=122)=decide ((c.toNat:Int)<=122):=decide_eq_decide.2 (by omega);have HV2:Hd (V=((decide ((97:Int)<=(c.toNat:Int)) && decide ((c.toNat:Int)<=122)) && N)):=hi_ (by rw[HV.o,<-d4,<-d5]);generalize h4:decide ((97:Int)<=(c.toNat:Int))=b4 at *;generalize h5:decide ((c.toNat:Int)<=122)=b5 at *;clear hem d4 d5 HV hsz HGet
  go_enter Tryz.func111,Tryz.ntmps111
  cases b4 with
  |false=>
   have h4':¬(97:Int)<=(c.toNat:Int):=of_decide_eq_false h4;have HF:Hd (V=false):=hi_ (by rw[HV2.o];rfl);go_wp2_with fail
   go_ret
   exact⟨H.ap_ HF.o.symm,br_⟩
  |true=>
   have h4':(97:Int)<=(c.toNat:Int):=of_decide_eq_true h4
   cases b5 with
   |false=>
    have h5':¬(c.toNat:Int)<=122:=of_decide_eq_false h5;have HF:Hd (V=false):=hi_ (by rw[HV2.o];rfl);go_wp2_with fail
    go_ret
    exact⟨H.ap_ HF.o.symm,br_⟩
   |true=>
    have h5':(c.toNat:Int)<=122:=of_decide_eq_true h5;have HF:Hd (V=N):=hi_ (by rw[HV2.o];rfl);go_wp2_with fail
    refine(QA.o _).mono ?_;rintro e w1 ⟨rfl,b⟩;have HB:=hi_ b;clear b;go_wp2_with fail
    go_ret
    exact⟨H.ap_ HF.o.symm,HB.o⟩
theorem mB_{s:List UInt8}{i:Nat}(h1:1<=i)(hi:i<s.length)(h:(s[i]==61)=true):bE_ s=false:=by
 unfold bE_;have:(s.drop 1).all (fun c=>!(c==61))=false:=by
  rw[List.all_eq_false];refine⟨s[i],?_,by rw[h];simp⟩;rw[List.mem_iff_getElem?];exact⟨i-1,by rw[List.getElem?_drop,show 1+(i-1)=i by omega];exact List.getElem?_eq_getElem hi⟩
 rw[this];rfl
theorem c3_{s:List UInt8}{i:Nat}(h1:1<=i)(hi:i<s.length)(h:((s.take i).drop 1).all (fun c=>!(c==61))=true)(hb:(s[i]==61)=false):((s.take (i+1)).drop 1).all (fun c=>!(c==61))=true:=by
 rw[List.take_add_one,List.getElem?_eq_getElem hi,List.drop_append_of_le_length (by rw[List.length_take];omega),List.all_append,h];simp[hb]
theorem mj_(s:List UInt8)(w:World)(hs:s.length<=100000) :
  Calls Tryz.prog 112 #[.string ⟨s.toArray⟩] w fun e w'=>e=.returned (.bool (bE_ s))/\Below w.heap.size w w':=by
 obtain⟨S,hS⟩:∃S:ByteArray,S=⟨s.toArray⟩:=⟨_,rfl⟩;rw[<-hS];have hsz:S.size=s.length:=by rw[hS];exact H.aN_ s
 have HGet:Hd (∀i (h:i<s.length) (h':i<S.size),S[i]'h'=s[i]):=hi_ (by subst hS;exact fun i h h'=>rfl);have QA:Hd (∀W,Calls Tryz.prog 152 #[.string S] W fun e w'=>e=.returned (.bool (cL_ s))/\Below W.heap.size W w'):=hi_ (by rw[hS];exact fun W=>g4_ s W hs);clear hS
 go_enter Tryz.func112,Tryz.ntmps112
 go_wp2_with fail
 go_loopw [3] (fun v3 wr=>∃i:Nat,v3=.int .i64 (i:Nat)/\1<=i/\(i<=s.length\/i=1)/\wr=w/\Hd (((s.take i).drop 1).all (fun c=>!(c==61))=true)) (fun v3 _=>s.length-(Go.RowKit.intOf v3).toNat)
 case atStart => exact ⟨1, rfl, nl_, Or.inr rfl, rfl, hi_ (by
   have:(s.take 1).drop 1=[]:=List.drop_eq_nil_of_le (by rw[List.length_take];omega);rw[this];rfl)⟩
 obtain⟨i,rfl,h1,hi,rfl,HA⟩:=hrel
 rcases Nat.lt_or_ge i s.length with hlt|hge
 ·have hii:(i:Int)<(s.length:Int):=by omega
  have HStop:=hi_ (fun(hb:(s[i]==61)=true)=>mB_ h1 hlt hb);have HGo:=hi_ (fun(hb:(s[i]==61)=false)=>c3_ h1 hlt HA.o hb);have hc:=HGet.o i hlt (by rw[hsz];exact hlt);generalize s[i]=c at *;have e2:=df_ c 61 (by omega);have e2':(c==61)=((c.toNat:Int)==61):=e2.symm;rw[e2']at HStop HGo;have wq:IntKind.i64.wrap ((i:Int)+1)=(i:Int)+1:=IntWalk.i64_in _ (by omega);clear e2 e2';generalize h2:((c.toNat:Int)==61)=b2 at *
  cases b2 with
  |true=>
   have HF:=hi_ (HStop.o rfl);go_wp2_with fail
   go_ret
   exact⟨H.ap_ HF.o.symm,br_⟩
  |false=>
   have HG:=hi_ (HGo.o rfl);go_wp2_with fail
   go_roundw
   case rel=>exact⟨i+1,by go_num,by omega,by omega,trivial,HG⟩
   simp[Go.RowKit.intOf];omega
 have HN:Hd (bE_ s=cL_ s):=hi_ (by
  have h2:=HA.o;rw[List.take_of_length_le hge]at h2;unfold bE_;rw[h2];simp)
 have hnl:¬((i:Int)<(s.length:Int)):=by omega
 clear HA HGet;go_wp2_with fail
 refine(QA.o _).mono ?_;rintro e w1 ⟨rfl,b⟩;have HB:=hi_ b;clear b;go_wp2_with fail
 go_ret
 exact⟨H.ap_ HN.o.symm,HB.o⟩
end R
end
section
open Go.RowKit Go.Sort
theorem Q.len_(s:List UInt8)(w:World)(hs:s.length<=1000000):Calls Tryz.prog 51 #[.string ⟨s.toArray⟩] w fun e w'=>e=.returned (.int .i64 ((U.pts s).length:Nat))/\Below w.heap.size w w':=by
 have h:=T.Len ⟨s.toArray⟩ w (by rw[H.aN_];omega);have e:(⟨s.toArray⟩:ByteArray).data.toList=s:=by simp
 rw[e]at h;exact h
theorem Q.slice_(s:List UInt8)(a b:Int)(w:World)(hs:s.length<=1000000)(hT:T.Tabs w):Calls Tryz.prog 54 #[.string ⟨s.toArray⟩,.int .i64 a,.int .i64 b] w fun e w'=>e=.returned (.string ⟨(U.sl (U.pts s) a.toNat b.toNat).toArray⟩)/\Below w.heap.size w w':=by
 have h:=T.Slice ⟨s.toArray⟩ a b w (by rw[H.aN_];exact hs) hT;have e:(⟨s.toArray⟩:ByteArray).data.toList=s:=by simp
 rw[e]at h;exact h
namespace A
open H G
theorem eF_(m:aa_)(h:Nat)(i c:Int)(s:List UInt8) :
  ((nd m h).kind<3->replace m h i c s=([],10,m))/\(¬(nd m h).kind<3->(i<0\/((U.pts (nd m h).data).length:Int)<i\/c<0)->replace m h i c s=([],2,m)) ∧
  (¬(nd m h).kind<3->¬(i<0\/((U.pts (nd m h).data).length:Int)<i\/c<0)->∀z,z=min c.toNat ((U.pts (nd m h).data).length-i.toNat)->replace m h i c s=([⟨4,h,none,none,none,i.toNat,[],(nd m h).data,false,z,(U.pts s).length⟩],0,bQ_ m h (U.splice (nd m h).data s i.toNat z))):=by
 refine⟨fun h1=>?_,fun h1 h2=>?_,fun h1 h2 z hz=>?_⟩
 ·unfold replace;rw[if_pos h1]
 ·unfold replace;rw[if_neg h1,if_pos h2]
 unfold replace;rw[if_neg h1,if_neg h2,hz]
theorem Fits.setD{T:am_}{m:aa_}{pos:Nat->Nat}(F:Fits T m pos){h:Nat}(hh:has m h=true)(d:List UInt8):Fits (T.modS (pos h) fun r=>{ r with data:=d }) (bQ_ m h d) pos:=by
 have L:=bb_.modS T (pos h) (f:=fun r=>{ r with data:=d }) (fun r=>rfl);have hsl:∀i,has m i=true->(T.modS (pos h) fun r=>{ r with data:=d }).sl (pos i)=if i=h then { T.sl (pos i)with data:=d } else T.sl (pos i):=fun i hi=>bP_ F (bb_.refl T) hi hh _
 refine F.sett hh (f:=fun x=>{ x with data:=d }) (fun x=>⟨rfl,rfl,rfl,rfl,rfl⟩) ⟨L.bs,L.st,L.len,L.frees,L.live,L.root,L.used,fun i hi=>?_,fun i hi=>?_,fun i hi=>?_⟩
 ·rw[hsl i hi];split<;>exact⟨rfl,rfl,rfl,rfl,rfl,rfl,rfl⟩
 ·rw[hsl i hi]
  by_cases e:i=h
  ·rw[if_pos e,if_pos e,e];exact F.attrs h hh
  rw[if_neg e,if_neg e]
 rw[hsl i hi]
 by_cases e:i=h
 ·rw[if_pos e,if_pos e]
 rw[if_neg e,if_neg e]
theorem fN_(d s:List UInt8)(i z:Nat):U.sl (U.pts d) 0 i++U.rep s++U.sl (U.pts d) (i+z) (U.pts d).length=U.splice d s i z:=by
 unfold U.sl U.splice;rw[List.drop_zero,List.take_length]
theorem gR_(d s:List UInt8)(i z:Nat):(U.splice d s i z).length<=6*d.length+3*s.length:=by
 rw[<-fN_,List.length_append,List.length_append];have h1:=T.sl_length (U.pts d) 0 i;have h2:=T.sl_length (U.pts d) (i+z) (U.pts d).length;have h3:(U.pts d).flatten.length<=3*d.length:=U.gW_ d;have h4:=U.gW_ s;omega
def recD(z:Int)(i:Nat)(old:List UInt8)(c n:Nat):Array Value:=#[.int .i64 4,.int .i64 z,.int .i64 0,.int .i64 0,.int .i64 0,.int .i64 i,.string ⟨#[]⟩,.string ⟨old.toArray⟩,.bool false,.int .i64 c,.int .i64 n]
theorem hW_(T:am_)(z:Int)(i c:Int)(s:List UInt8)(w:World)(hT:al_ w T)(hz:-9223372036854775808<=z)(hz2:z<=9223372036854775807)(hp:T.ptr 1 z=none) :
  Calls Tryz.prog 69 #[.pointer (some ⟨T.tb,0,none⟩),.int .i64 z,.int .i64 i,.int .i64 c,.string ⟨s.toArray⟩] w fun e w'=>e=.returned (.tuple #[.slice none 0 0,.int .i64 6])/\Below w.heap.size w w':=by
 have Q1:=hi_ (at_ T z w hT hz hz2);rw[hp]at Q1;clear hT hp
 go_enter Tryz.func69,Tryz.ntmps69
 go_wp2_with fail
 refine Q1.o.mono ?_;rintro e w2 ⟨rfl,hb2⟩;go_wp2_with fail
 exact bodyPost_ret (v:=.tuple #[.slice none 0 0,.int .i64 6]) (by simp[results,Tryz.results69,go_sem]) rfl ⟨rfl,hb2⟩
theorem nM_(T:am_)(m:aa_)(pos:Nat->Nat)(h:Nat)(i c:Int)(s:List UInt8)(w:World)(hT:ag_ w T m pos)(hh:has m h=true)(hdl:(nd m h).data.length<=100000)(hs:s.length<=1000)(hi:-1000<=i/\i<=1000)(hc:-1000<=c/\c<=1000)(hTb:fz_ w) :
  Calls Tryz.prog 69 #[.pointer (some ⟨T.tb,0,none⟩),.int .i64 (hd T pos h),.int .i64 i,.int .i64 c,.string ⟨s.toArray⟩] w fun e w'=>∃v T',e=.returned (.tuple #[v,.int .i64 ((replace m h i c s).2.1:Nat)])/\H.Frame (fun k=>k=T.g) w w'/\bb_ T T'/\ag_ w' T' (replace m h i c s).2.2 pos/\aD_ T pos w.heap.size w' v (replace m h i c s).1:=by
 have hF:=hT.fits;have hfew:=hT.mem.few;have hpl:=hF.lt h hh;have HT:=hi_ hT;have hbj:=bF_ hfew hF hh;have hpj:=aP_ (T:=T) (pos:=pos) h;have Q1:=hi_ (at_ T (hd T pos h) w hT.mem (by omega) (by omega));rw[bM_ hfew hF hh 1]at Q1;have HK:=hi_ (fun W (hb:Below w.heap.size w W)=>(show W.cell? ⟨T.g,pos h*10+1,none⟩=some (.int .i64 ((nd m h).kind:Nat))/\W.cell? ⟨T.g,pos h*10+4,none⟩=some (.string ⟨(nd m h).data.toArray⟩)/\W.frozen? ⟨T.g,pos h*10+4,none⟩=false/\T.g<W.heap.size from by
  refine⟨?_,?_,((hT.below hb).cell hh (k:=4) (by omega)).2,(ad_ (hT.below hb).mem.row).1⟩
  ·rw[((hT.below hb).cell hh (k:=1) (by omega)).1,<-hF.kind h hh];rfl
  rw[((hT.below hb).cell hh (k:=4) (by omega)).1,<-hF.data h hh];rfl))
 have hk4:(nd m h).kind<=4:=by
  rcases Nat.eq_zero_or_pos h with h0|h0
  ·rw[h0,hF.wf.doc.2.1];omega
  exact(hF.wf.kinds h (aR_ hh) h0).2
 have QL:=hi_ (fun W=>Q.len_ (nd m h).data W (by omega));have QR:=hi_ (fun W (hW:Below w.heap.size w W)=>hr_ s W (by omega) (hTb.below hW));have QS:=hi_ (fun(a b:Int) W (hW:Below w.heap.size w W)=>Q.slice_ (nd m h).data a b W (by omega) (hTb.below hW));have HSC:=hi_ (eF_ m h i c s);have HSp:=hi_ (fun i z=>fN_ (nd m h).data s i z);have HSl:=hi_ (fun i z=>gR_ (nd m h).data s i z);have hpn:=U.cS_ (nd m h).data;have HRl:=hi_ (fQ_ s);have HPr:Hd (U.pts (U.rep s)=U.pts s):=hi_ (U.e5_ s);have HFitD:=hi_ (fun d=>hF.setD hh d);obtain⟨R,hR⟩:∃R,R=replace m h i c s:=⟨_,rfl⟩;rw[<-hR]at HSC ⊢;generalize (nd m h).kind=kd at *;generalize (nd m h).data=dt at *;generalize hln:(U.pts dt).length=ln at *;have HLn:=hi_ hln;clear hT hR hTb hln
 go_enter Tryz.func69,Tryz.ntmps69
 go_wp2_with fail
 refine Q1.o.mono ?_;rintro e w1 ⟨rfl,hb1⟩;have HB1:=hi_ hb1;obtain⟨k1,k4,f4,hg1⟩:=HK.o w1 hb1;clear hb1 Q1
 by_cases c3:kd<3
 ·have HRr:=hi_ (HSC.o.1 c3)
  have e1:(((kd:Nat):Int) != 3)=true:=bne_iff_ne.2 (by omega);have e2:(((kd:Nat):Int) != 4)=true:=bne_iff_ne.2 (by omega);have e3:¬((kd:Nat):Int)=3:=by omega
  have e4:¬((kd:Nat):Int)=4:=by omega
  clear c3 HSC;go_wp2_with fail
  refine bodyPost_ret (v:=.tuple #[.slice none 0 0,.int .i64 10]) (by simp[results,Tryz.results69,go_sem]) rfl ⟨.slice none 0 0,T,by rw[HRr.o];rfl,H.Frame.of HB1.o,bb_.refl T,by rw[HRr.o];exact HT.o.below HB1.o,by rw[HRr.o];exact aD_.nil _ _ _ _⟩
 have HS1:=hi_ (HSC.o.2.1 c3);have HS2:=hi_ (HSC.o.2.2 c3);have hk34:kd=3\/kd=4:=by omega
 clear HSC c3;go_upto_region 4 with fail
 go_cut [22] (fun s22 wx=>s22=.bool false/\wx=w1)
 case first=>
  rcases hk34 with rfl|rfl
  ·go_wp2_with fail
   go_meet
   exact⟨rfl,rfl⟩
  go_wp2_with fail
  go_meet
  exact⟨rfl,rfl⟩
 obtain⟨rfl,rfl⟩:=hcut;clear hk34 hk4;go_wp2_with fail
 refine(QL.o _).mono ?_;rintro e w2 ⟨rfl,hb2⟩;have HB2:=bt_ HB1 hb2;clear hb2 k1 k4 f4 hg1
 by_cases hbad:i<0\/((ln:Nat):Int)<i\/c<0
 ·have HRr:=hi_ (HS1.o hbad)
  have hfin:∃v T',Ending.returned (.tuple #[.slice none 0 0,.int .i64 2])=Ending.returned (.tuple #[v,.int .i64 R.2.1])/\H.Frame (fun k=>k=T.g) w w2/\bb_ T T'/\ag_ w2 T' R.2.2 pos/\aD_ T pos w.heap.size w2 v R.1:=⟨.slice none 0 0,T,by rw[HRr.o];rfl,H.Frame.of HB2.o,bb_.refl T,by rw[HRr.o];exact HT.o.below HB2.o,by rw[HRr.o];exact aD_.nil _ _ _ _⟩;have HFn:=hi_ hfin;clear hfin
  by_cases g1:i<0
  ·clear hbad
   go_wp2_with fail
   exact bodyPost_ret (v:=.tuple #[.slice none 0 0,.int .i64 2]) (by simp[results,Tryz.results69,go_sem]) rfl HFn.o
  by_cases g2:((ln:Nat):Int)<i
  ·clear hbad
   go_wp2_with fail
   exact bodyPost_ret (v:=.tuple #[.slice none 0 0,.int .i64 2]) (by simp[results,Tryz.results69,go_sem]) rfl HFn.o
  have g3:c<0:=(hbad.resolve_left g1).resolve_left g2;clear hbad;go_wp2_with fail
  exact bodyPost_ret (v:=.tuple #[.slice none 0 0,.int .i64 2]) (by simp[results,Tryz.results69,go_sem]) rfl HFn.o
 obtain⟨ii,rfl⟩:∃ii:Nat,i=ii:=⟨i.toNat,by omega⟩;obtain⟨cc,rfl⟩:∃cc:Nat,c=cc:=⟨c.toNat,by omega⟩;have g1:¬(ii:Int)<0:=by omega
 have g2:¬((ln:Nat):Int)<(ii:Int):=by omega
 have g3:¬(cc:Int)<0:=by omega
 have g2n:¬ln<ii:=by omega
 have d1:decide ((ii:Int)<0)=false:=decide_eq_false g1;have d2:decide (ln<ii)=false:=decide_eq_false g2n;have d3:decide ((cc:Int)<0)=false:=decide_eq_false g3;have d4:decide ((ln:Int)<(ii:Int))=false:=decide_eq_false g2;obtain⟨z,hz⟩:∃z,z=min cc (ln-ii):=⟨_,rfl⟩;have hRr:=HS2.o hbad z (by simpa using hz);rw[Int.toNat_natCast]at hRr;have HRr:=hi_ hRr;have wq:IntKind.i64.wrap ((ln:Int)-(ii:Int))=(ln:Int)-(ii:Int):=IntWalk.i64_in _ (by omega);have wq2:wrap64 ((ln:Int)-(ii:Int))=(ln:Int)-(ii:Int):=by unfold wrap64;omega
 have hmin:min (cc:Int) ((ln:Int)-(ii:Int))=(z:Int):=by rw[hz];omega
 have wa:IntKind.i64.wrap ((ii:Int)+(z:Int))=(ii:Int)+(z:Int):=IntWalk.i64_in _ (by omega);have wa2:wrap64 ((ii:Int)+(z:Int))=(ii:Int)+(z:Int):=by unfold wrap64;omega
 have HZ:=hi_ (show ii+z<=ln by omega);have HMin:=hi_ hmin;clear hbad hz HS1 HS2 hmin hRr;go_upto_region 9 with fail
 go_cut [3] (fun s3 wx=>s3=.int .i64 z/\wx=w2)
 case first=>
  go_wp2_with fail
  go_meet
  exact⟨congrArg (Value.int .i64) HMin.o,rfl⟩
 obtain⟨rfl,rfl⟩:=hcut;clear wq wq2;go_wp2_with fail
 refine(QR.o _ HB2.o).mono ?_;rintro e w3 ⟨rfl,hb3⟩;have HB3:=bt_ HB2 hb3;obtain⟨k1,k4,f4,hg3⟩:=HK.o w3 HB3.o;have q1:=QS.o 0 (ii:Nat);have q2:=QS.o ((ii:Int)+(z:Int)) (ln:Nat);rw[Int.toNat_natCast,show(0:Int).toNat=0 from rfl]at q1;rw[Int.toNat_natCast,show((ii:Int)+(z:Int)).toNat=ii+z by rw[<-Int.natCast_add,Int.toNat_natCast]]at q2;have HQ1:=hi_ (fun W (hW:Below w3.heap.size w3 W)=>q1 W (HB3.o.trans (hW.mono HB3.o.size)));have HQ2:=hi_ (fun W (hW:Below w3.heap.size w3 W)=>q2 W (HB3.o.trans (hW.mono HB3.o.size)));have D4:=lc_ k4 hg3;have D4':∀d:Later w3.heap.size w3,d.w.cell? ⟨T.g,pos h*10+1+3,none⟩=some (.string ⟨dt.toArray⟩):=D4;have hsp:=HSp.o ii z;have hslen:=HSl.o ii z;obtain⟨sp,hspe⟩:∃sp,sp=U.splice dt s ii z:=⟨_,rfl⟩;rw[<-hspe]at hsp hslen HRr
 generalize U.sl (U.pts dt) 0 ii=p1 at *;generalize U.sl (U.pts dt) (ii+z) ln=p2 at *;generalize hrs:U.rep s=rs at *;have HSpl:=hi_ hsp;have HSln:=hi_ hslen;have HRs:=hi_ hrs;have hl3:p1.length+rs.length+p2.length=sp.length:=by rw[<-hsp,List.length_append,List.length_append]
 have hadd1:=fun(W:World)=>run_string_add_lists (P:=Tryz.prog) W p1 rs (by omega) (by omega);have hadd2:=fun(W:World)=>run_string_add_lists (P:=Tryz.prog) W (p1++rs) p2 (by rw[List.length_append];omega) (by omega);have hz1:(p1.length:Int)+(rs.length:Int)<=9223372036854775807:=by omega
 have hz2:(p1.length:Int)+(rs.length:Int)+(p2.length:Int)<=9223372036854775807:=by omega
 have hz3:p1.length+rs.length<=9223372036854775807:=by omega
 have hz4:p1.length+rs.length+p2.length<=9223372036854775807:=by omega
 clear hb3 q1 q2 hsp hslen hspe hrs k1 hl3;go_wp2_with fail
 refine af_ (by kernel_rfl) (by kernel_rfl) ?_;repeat (go_big_quiet_step (first|(go_at_call 54;with_reducible exact Calls.later (HQ1.o _ (Later.h _)))|(go_at_call 54;with_reducible exact Calls.later (HQ2.o _ (Later.h _)))))
 refine wq_ (fun dq=>?_);rw[<-List.append_assoc,HSpl.o];have HB4:=bt_ HB3 dq.h;obtain⟨k1,k4,f4,hg4⟩:=HK.o dq.w HB4.o;generalize dq.w=w4 at *;have hlong:=N.long_ sp w4;rw[decide_eq_false (by have:=HSln.o;omega)]at hlong;have QG:=hi_ hlong;clear hlong D4 D4' k1;go_wp2_with fail
 refine QG.o.mono ?_;rintro e w4' ⟨rfl,rfl⟩;clear QG;go_upto_region 14 with fail
 have hrsl:rs.length<=1000000:=by have:=HRl.o;omega
 have hlen0:=fun W=>Q.len_ rs W hrsl;have hn:(U.pts rs).length=(U.pts s).length:=by rw[HPr.o]
 rw[hn]at hlen0;generalize hnn:(U.pts s).length=n at *;have HNn:=hi_ hnn;clear hn hnn;have HSS:Hd (∀w',Below w4.heap.size w4 w'->Below w4.heap.size w4 w'/\w'.cell? ⟨T.g,pos h*10+4,none⟩=some (.string ⟨dt.toArray⟩)):=hi_ (fun w' hB=>⟨hB,(hB.cell (p:=⟨T.g,pos h*10+4,none⟩) hg4).trans k4⟩);have QJ:Hd (∀W,(Below w4.heap.size w4 W/\W.cell? ⟨T.g,pos h*10+4,none⟩=some (.string ⟨dt.toArray⟩))->Calls Tryz.prog 51 #[.string ⟨rs.toArray⟩] W fun e w'=>e=.returned (.int .i64 n)/\Below W.heap.size W w'/\Below w4.heap.size w4 w'/\w'.cell? ⟨T.g,pos h*10+4,none⟩=some (.string ⟨dt.toArray⟩)):=hi_ (fun W hW=>(hlen0 W).mono (fun e w' he=>⟨he.1,he.2,HSS.o w' (hW.1.trans (he.2.mono hW.1.size))⟩));have HBd:=hi_ (Below.refl w4.heap.size w4).drew
 have HBx:=hi_ (show Below w4.heap.size w4 (w4.alloc (.cells #[.int .i64 0,.int .i64 0,.int .i64 0,.int .i64 0,.int .i64 0,.int .i64 0,.string ⟨#[]⟩,.string ⟨#[]⟩,.bool false,.int .i64 0,.int .i64 0] 73)).drew from ((Below.refl w4.heap.size w4).alloc (nl_) _).drew);have HZ2:Hd (w4.heap.size<=w4.heap.size):=hi_ (nl_);have HK4:=hi_ k4
 go_cut [15] (fun s15 wx=>∃A,s15=.pointer (some ⟨A,0,none⟩)/\w4.heap.size<=A/\Hd (Blk A (recD (hd T pos h) ii dt z n) 73 wx)/\Hd (Below w4.heap.size w4 wx))
 case first=>
  clear hlen0 k4 f4 hg4
  go_region_held3 (fun w'=>Below w4.heap.size w4 w'/\w'.cell? ⟨T.g,pos h*10+4,none⟩=some (.string ⟨dt.toArray⟩)) (first|with_reducible assumption|with_reducible exact HSS.o _ (HS3.o.alloc HS3.o.size _)|with_reducible exact HSS.o _ (a0_ (a0_ (a0_ (a0_ (a0_ (a0_ (a0_ (a0_ (a0_ (a0_ (a0_ HS3.o HZ2.o) HZ2.o) HZ2.o) HZ2.o) HZ2.o) HZ2.o) HZ2.o) HZ2.o) HZ2.o) HZ2.o) HZ2.o)|with_reducible exact HSS.o _ HBd.o|with_reducible exact HSS.o _ HBx.o)
   (first|(go_at_call 51;refine(QJ.o _ (by with_reducible assumption)).mono ?_;rintro e w5 ⟨rfl,b5,hS5⟩;have HS3:=hi_ hS5.1;(try (have hz:=lX_ b5;obtain⟨⟨k0,k1,k2,k3,k4,k5,k6,k7,k8,k9,k10⟩,⟨f0,f1,f2,f3,f4,f5,f6,f7,f8,f9,f10⟩⟩:=bq_ hz;have HZ:=hi_ hz;clear hz));clear b5))
  ·go_wp2_with fail
   go_meet
   exact⟨_,rfl,HS3.o.size,hi_ (Blk.new w5 (recD (hd T pos h) ii dt z n) _),hi_ (HS3.o.alloc HS3.o.size _)⟩
  go_wp2_with fail
  go_meet
  exact⟨_,rfl,nl_,hi_ (Blk.set11 HZ.o _ _ _ _ _ _ _ _ _ _ _),hi_ (ev_ HS3.o HZ2.o _ _ _ _ _ _ _ _ _ _ _)⟩
 obtain⟨A,rfl,hA,HRA,HB5⟩:=hcut;have HB6:=bt_ HB4 HB5.o;obtain⟨k1,k4',f4',hg5⟩:=HK.o _ HB6.o;have hAT:A≠T.g:=by omega
 have hAT':¬A=T.g:=hAT;have hTA:¬T.g=A:=fun e=>hAT e.symm;have hAl:=HRA.o.lt;obtain⟨⟨r0,r1,r2,r3,r4,r5,r6,r7,r8,r9,r10⟩,_⟩:=bq_ (show Blk A #[.int .i64 4,.int .i64 (hd T pos h),.int .i64 0,.int .i64 0,.int .i64 0,.int .i64 ii,.string ⟨#[]⟩,.string ⟨dt.toArray⟩,.bool false,.int .i64 z,.int .i64 n] 73 _ from HRA.o);have HM:=hi_ (al_.store (HT.o.below HB6.o).mem hpl (k:=4) (by omega) (.string ⟨sp.toArray⟩) (fun r=>{ r with data:=sp }) rfl (fun r=>⟨rfl,rfl⟩));have HF:=hi_ (frG (g:=T.g) (H.Frame.of HB6.o) (pos h*10+4) (.string ⟨sp.toArray⟩));clear k4 f4 k1 hlen0;go_wp2_with fail
 have hz:(wc.setCell ⟨T.g,pos h*10+4,none⟩ (.string ⟨sp.toArray⟩)).heap.size=wc.heap.size:=by simp[World.setCell]
 have hrec:=fH_ (T:=T) (pos:=pos) (base:=w.heap.size) (w:=wc.setCell ⟨T.g,pos h*10+4,none⟩ (.string ⟨sp.toArray⟩)) (r:=⟨4,h,none,none,none,ii,[],dt,false,z,n⟩) rfl HF.o.size;rw[hz]at hrec;refine bodyPost_ret (v:=.tuple #[.slice (some ⟨wc.heap.size,0,none⟩) 1 1,.int .i64 0]) (by simp[results,Tryz.results69,go_sem]) rfl ⟨_,T.modS (pos h) (fun r=>{ r with data:=sp }),by rw[HRr.o];rfl,HF.o.alloc _,bb_.modS _ _ (fun r=>rfl),?_,?_⟩
 ·rw[HRr.o]
  exact⟨HM.o.below ((br_).alloc (nl_) _),HFitD.o sp⟩
 rw[HRr.o];exact hrec
end A
end
end Go.Proofs.YtinphfpdfodkkaaGreatDoor
