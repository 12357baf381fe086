/- Texts. -/
import Derived.Test.YtinphfpdfodkkaaGreatDoorP09
set_option linter.unusedVariables false
set_option linter.unusedSimpArgs false
set_option maxHeartbeats 8000000
set_option maxRecDepth 100000
namespace Go.Proofs.YtinphfpdfodkkaaGreatDoor
section
open Go.RowKit Go.Sort
namespace A
open H G
abbrev BB:=List UInt8×List UInt8
def g9_(o:Option Nat):Int:=match o with|none=>-1|some i=>i
theorem eH_{p:BB->Bool}{l:List BB}{i:Nat}(h:∀j a,j<i->l[j]?=some a->p a=false):l.findIdx? p=((l.drop i).findIdx? p).map (· + i):=by
 induction i generalizing l with
 |zero=>simp
 |succ i ih=>
  cases l with
  |nil=>simp
  |cons a t=>
   have h0:=h 0 a (by omega) rfl;rw[List.findIdx?_cons,h0,List.drop_succ_cons,ih (l:=t) (fun j b hj hb=>h (j+1) b (by omega) (by simpa using hb))]
   cases (t.drop i).findIdx? p with
   |none=>rfl
   |some k=>simp;omega
theorem gH_(v:Value)(l:List BB)(w:World)(h:aw_ w v l)(hl:l.length<=1000000)(g:Nat)(lb:Array Value)(eg:∀args w,(callFunc g args).run Tryz.prog w=.ok (.enter g args) w)(p:BB->Bool)
  (hp:∀W a,a∈l->Below w.heap.size w W->Calls Tryz.prog g (#[.agg #[.string ⟨a.1.toArray⟩,.string ⟨a.2.toArray⟩]]++lb) W fun e w'=>e=.returned (.bool (p a))/\Below w.heap.size w w') :
  Calls Tryz.prog 151 #[v,.func (.func g) #[] lb] w fun e w'=>e=.returned (.int .i64 (g9_ (l.findIdx? p)))/\Below w.heap.size w w':=by
 obtain⟨ao,cap,hv⟩:=aw_.slice h;subst hv;have HA:=hi_ h;have HP:=hi_ hp;obtain⟨R,hR⟩:∃R,R=g9_ (l.findIdx? p):=⟨_,rfl⟩;have HR:=hi_ hR;rw[<-hR];clear h hp hR
 go_enter Tryz.func151,Tryz.ntmps151
 go_wp2_with fail
 go_loopw [8] (fun v8 wr=>∃i:Nat,v8=.int .i64 i/\i<=l.length/\Hid (Below w.heap.size w wr)/\Hid (∀j a,j<i->l[j]?=some a->p a=false)) (fun v8 _=>l.length-(aN_ v8).toNat)
 case atStart=>exact⟨0,rfl,Nat.zero_le _,hi_ (br_),hi_ (fun j a hj=>by omega)⟩
 case round=>
  obtain⟨i,rfl,hi,HB,HN⟩:=hrel
  by_cases hil:i<l.length
  ·have hiI:(i:Int)<(l.length:Int):=by omega
   obtain⟨g0,cap',hv,hgl⟩:=(HA.out.form).resolve_left (fun h=>by have:=h.2;rw[this]at hil;simp at hil);injection hv with e1 _ e3
   subst e1 e3;have hA2:aw_ wr (.slice (some ⟨g0,0,none⟩) l.length cap) l:=own_below HA.out HB.out;have hc0:=(ac_.cell aq_ hA2 hil (k:=0) (by omega)).1;have hc1:=(ac_.cell aq_ hA2 hil (k:=1) (by omega)).1;have hget:l[i]?=some l[i]:=List.getElem?_eq_getElem hil;have hcall:=HP.out wr l[i] (List.getElem_mem hil) HB.out;have HD:Hid (l.drop i=l[i] :: l.drop (i+1)):=hi_ (List.drop_eq_getElem_cons hil);generalize l[i]=a at *;have HG:=hi_ hget;obtain⟨nm,vl⟩:=a;have k0:wr.cell? ⟨g0,i*2,none⟩=some (.string ⟨nm.toArray⟩):=hc0;have k1:wr.cell? ⟨g0,i*2+1,none⟩=some (.string ⟨vl.toArray⟩):=hc1;clear hc0 hc1 hA2 hget
   cases hq:p (nm,vl) with
   |true=>
    rw[hq]at hcall;have HF:Hid (R=(i:Int)):=hi_ (by rw[HR.out,eH_ HN.out,HD.out,List.findIdx?_cons,hq];simp[g9_]);clear hq HD;go_wp2_with (go_at_fn g;refine hcall.mono ?_;rintro e w' ⟨rfl,hb'⟩)
    go_ret
    exact⟨ay_ HF.out.symm,hb'⟩
   |false=>
    rw[hq]at hcall;have HN2:Hid (∀j a,j<i+1->l[j]?=some a->p a=false):=hi_ (fun j a hj ha=>by
     by_cases e:j=i
     ·subst e
      rw[HG.out]at ha;injection ha with ha
      rw[<-ha];exact hq
     ·exact HN.out j a (by omega) ha)
    clear hq HD;go_wp2_with (go_at_fn g;refine hcall.mono ?_;rintro e w' ⟨rfl,hb'⟩)
    go_roundw
    case rel=>exact⟨i+1,by go_num,by omega,hi_ hb',HN2⟩
    case measure=>simp[aN_];omega
  ·have hiI:¬(i:Int)<(l.length:Int):=by omega
   have HF:Hid (R=-1):=hi_ (by rw[HR.out,eH_ HN.out,List.drop_eq_nil_of_le (by omega)];rfl);go_wp2_with fail
   go_ret
   exact⟨ay_ HF.out.symm,HB.out⟩
theorem named1(nm x y:List UInt8)(b:Nat)(w:World)(hb:b<w.heap.size)(hc:w.cell? ⟨b,0,none⟩=some (.string ⟨nm.toArray⟩)) :
  Calls Tryz.prog 154 #[.agg #[.string ⟨x.toArray⟩,.string ⟨y.toArray⟩],.pointer (some ⟨b,0,none⟩)] w fun e w'=>e=.returned (.bool (x==nm))/\Below w.heap.size w w':=by
 have HB:=hi_ ((Below.refl w.heap.size w).alloc (nl_) (.cells #[.string ⟨x.toArray⟩,.string ⟨y.toArray⟩] 142));have HE:Hid (((⟨x.toArray⟩:ByteArray).toList==(⟨nm.toArray⟩:ByteArray).toList)=(x==nm)):=hi_ (by rw[Lib.toList_data,Lib.toList_data]);generalize hX:(⟨x.toArray⟩:ByteArray)=X at *;generalize hN:(⟨nm.toArray⟩:ByteArray)=N at *;have hne:b≠w.heap.size:=by omega
 clear hX hN
 go_enter Tryz.func154,Tryz.ntmps154
 go_wp2_with fail
 go_ret
 exact⟨H.ao_ HE.out,HB.out⟩
theorem n0_(T:am_)(m:aa_)(pos:Nat->Nat)(h:Nat)(nm:List UInt8)(w:World)(hT:aj_ w T m pos)(hh:has m h=true)(hl:(nd m h).attrs.length<=1000000) :
  Calls Tryz.prog 127 #[.pointer (some ⟨T.g,pos h*10+1,none⟩),.string ⟨nm.toArray⟩] w fun e w'=>e=.returned (.int .i64 (g9_ (bN_ m h nm)))/\Below w.heap.size w w':=by
 have eg:∀args w,(callFunc 154 args).run Tryz.prog w=.ok (.enter 154 args) w:=enters_of Tryz.func154 (by kernel_rfl) rfl;have hB:=(Below.refl w.heap.size w).alloc (nl_) (.cells #[.string ⟨nm.toArray⟩] 9);have hT1:=hT.below hB;have hat:=hT1.attrs hh;rw[hT.fits.attrs h hh]at hat;have k3:World.cell? _ ⟨T.g,pos h*10+3,none⟩=some (T.sl (pos h)).attrs:=(hT1.cell hh (k:=3) (by omega)).1;have hgl:=(ae_ hT1.mem.row).1;obtain⟨ao,cap,hav⟩:=aw_.slice hat;rw[hav]at hat k3;have hcb:=(ad_ (Blk.new w #[.string ⟨nm.toArray⟩] 9)).1 0;have Q:=hi_ (gH_ _ _ _ hat hl 154 #[.pointer (some ⟨w.heap.size,0,none⟩)] eg (fun a=>a.1==nm) (fun W a ha hW=>by
  have h1:=named1 nm a.1 a.2 w.heap.size W (by have:=hW.size;simp at this;omega) ((hW.cell (p:=⟨w.heap.size,0,none⟩) (by simp)).trans hcb);exact h1.mono (fun e w' h2=>⟨h2.1,hW.trans (h2.2.mono hW.size)⟩)))
 have HB:=hi_ hB;unfold bN_;generalize (nd m h).attrs.findIdx? (fun a=>a.1==nm)=R at *;clear hT hT1 hat hB hcb
 go_enter Tryz.func127,Tryz.ntmps127
 go_wp2_with fail
 refine Q.out.mono ?_;rintro e w2 ⟨rfl,hb2⟩;go_wp2_with fail
 go_ret
 exact⟨rfl,HB.out.trans (hb2.mono HB.out.size)⟩
theorem e9_(T:am_)(z:Int)(w:World)(hT:al_ w T)(hz:-9223372036854775808<=z)(hz2:z<=9223372036854775807)(hp:T.ptr 1 z=none) :
  Calls Tryz.prog 125 #[.pointer (some ⟨T.tb,0,none⟩),.int .i64 z] w fun e w'=>e=.returned (.tuple #[.pointer none,.int .i64 6])/\Below w.heap.size w w':=by
 have Q1:=hi_ (at_ T z w hT hz hz2);rw[hp]at Q1;clear hT hp
 go_enter Tryz.func125,Tryz.ntmps125
 go_wp2_with fail
 refine Q1.out.mono ?_;rintro e w2 ⟨rfl,hb2⟩;go_wp2_with fail
 exact bodyPost_ret (v:=.tuple #[.pointer none,.int .i64 6]) (by simp[results,Tryz.results125,go_sem]) rfl ⟨rfl,hb2⟩
theorem jE_(T:am_)(m:aa_)(pos:Nat->Nat)(h:Nat)(w:World)(hT:aj_ w T m pos)(hh:has m h=true) :
  Calls Tryz.prog 125 #[.pointer (some ⟨T.tb,0,none⟩),.int .i64 (hd T pos h)] w fun e w'=>(((nd m h).kind=2/\e=.returned (.tuple #[.pointer (some ⟨T.g,pos h*10+1,none⟩),.int .i64 0]))\/((nd m h).kind≠2/\e=.returned (.tuple #[.pointer none,.int .i64 10])))/\Below w.heap.size w w':=by
 have hF:=hT.fits;have hfew:=hT.mem.few;have hbj:=bA_ hfew hF hh;have hpj:=aP_ (T:=T) (pos:=pos) h;have Q1:=hi_ (at_ T (hd T pos h) w hT.mem (by omega) (by omega));rw[bH_ hfew hF hh 1]at Q1;have HK:=hi_ (fun W (hb:Below w.heap.size w W)=>(show W.cell? ⟨T.g,pos h*10+1,none⟩=some (.int .i64 ((nd m h).kind:Nat))from by
  rw[((hT.below hb).cell hh (k:=1) (by omega)).1,<-hF.kind h hh];rfl))
 generalize (nd m h).kind=kh at *;clear hT
 go_enter Tryz.func125,Tryz.ntmps125
 go_wp2_with fail
 refine Q1.out.mono ?_;rintro e w2 ⟨rfl,hb2⟩;have k1:=HK.out w2 hb2
 by_cases c1:kh=2
 ·have e1:(((kh:Nat):Int) != 2)=false:=by rw[c1];rfl
  have e2:((kh:Nat):Int)=2:=by omega
  have HC:=hi_ c1;clear c1;go_wp2_with fail
  exact bodyPost_ret (v:=.tuple #[.pointer (some ⟨T.g,pos h*10+1,none⟩),.int .i64 0]) (by simp[results,Tryz.results125,go_sem]) rfl ⟨Or.inl ⟨HC.out,rfl⟩,hb2⟩
 ·have e0:(((kh:Nat):Int)==2)=false:=bn_ (by omega)
  have e1:(((kh:Nat):Int) != 2)=true:=by unfold bne;rw[e0];rfl
  have e2:¬((kh:Nat):Int)=2:=by omega
  have HC:=hi_ c1;clear c1;go_wp2_with fail
  exact bodyPost_ret (v:=.tuple #[.pointer none,.int .i64 10]) (by simp[results,Tryz.results125,go_sem]) rfl ⟨Or.inr ⟨HC.out,rfl⟩,hb2⟩
abbrev fi_:=T.Tabs
theorem g1_(s:List UInt8)(w:World)(hs:s.length<=1000000)(hT:fi_ w):Calls Tryz.prog 104 #[.string ⟨s.toArray⟩] w fun e w'=>e=.returned (.string ⟨(U.rep s).toArray⟩)/\Below w.heap.size w w':=by
 have h:=T.Repair ⟨s.toArray⟩ w (by rw[H.aM_];exact hs) hT;have e:(⟨s.toArray⟩:ByteArray).data.toList=s:=by simp
 rw[e]at h;exact h
theorem fB_(s:List UInt8):(U.rep s).length<=3*s.length:=U.gy_ s
theorem gY_(m:aa_)(h:Nat)(nm vl:List UInt8) :
  ((nd m h).kind≠2->aD_ (some 64) m h nm vl=([],10,m))/\((nd m h).kind=2->bK_ nm=false->aD_ (some 64) m h nm vl=([],1,m)) ∧
  (∀i,(nd m h).kind=2->bK_ nm=true->bN_ m h nm=some i->aD_ (some 64) m h nm vl=([bg_ h nm (((nd m h).attrs[i]?.map (·.2)).getD []) true],0,upd m h fun x=>{ x with attrs:=x.attrs.set i (nm,U.rep vl) })) ∧
  ((nd m h).kind=2->bK_ nm=true->bN_ m h nm=none->64<=(nd m h).attrs.length->aD_ (some 64) m h nm vl=([],5,m)) ∧
  ((nd m h).kind=2->bK_ nm=true->bN_ m h nm=none->¬64<=(nd m h).attrs.length->aD_ (some 64) m h nm vl=([bg_ h nm [] false],0,upd m h fun x=>{ x with attrs:=x.attrs++[(nm,U.rep vl)] })):=by
 refine⟨fun h1=>?_,fun h1 h2=>?_,fun i h1 h2 h3=>?_,fun h1 h2 h3 h4=>?_,fun h1 h2 h3 h4=>?_⟩
 ·unfold aD_;rw[if_pos h1]
 ·unfold aD_;rw[if_neg (by simpa using h1),if_pos h2]
 ·unfold aD_;rw[if_neg (by simpa using h1),if_neg (by rw[h2];simp),h3]
 ·unfold aD_;rw[if_neg (by simpa using h1),if_neg (by rw[h2];simp),h3];dsimp only;rw[if_pos ⟨64,rfl,h4⟩]
 ·unfold aD_;rw[if_neg (by simpa using h1),if_neg (by rw[h2];simp),h3];dsimp only;rw[if_neg (by rintro⟨k,hk,hk2⟩;injection hk with hk;omega)]
def am_.setA(T:am_)(s:Nat)(V:Value)(al:List BB):am_:=T.modS s fun r=>{ r with attrs:=V,al:=al }
theorem al_.setA{w W:World}{T:am_}(h:al_ w T){s:Nat}{V:Value}{al:List BB}(f:H.Frame (fun k=>k=T.g) w W)(hrow:ac_ a5_ T.B 210 10 W (.slice (some ⟨T.g,0,none⟩) (T.setA s V al).slots.length T.cap) (T.setA s V al).slots)(hV:aw_ W V al):al_ W (T.setA s V al):=by
 have hlen:(T.setA s V al).slots.length=T.slots.length:=cY_ T s _;have hg1:T.tb≠T.g:=fun e=>ak_ h.row h.blk (by decide) (by rw[e];rfl);refine⟨?_,hrow,by rw[hlen];exact h.few,h.bb,ah_ h.free f (fun g hg e=>aU_ h.free h.row (by decide) hg (by rw[e];rfl)),fun r hr=>?_⟩
 ·have h1:=h.blk.frame f hg1
  unfold gr_ at h1 ⊢;rw[hlen];exact h1
 ·unfold am_.setA am_.modS at hr
  obtain⟨i,hi⟩:=List.mem_iff_getElem?.1 hr;rw[List.getElem?_modify]at hi
  cases h2:T.slots[i]? with
  |none=>rw[h2]at hi;split at hi<;>cases hi
  |some r0=>
   have hm:=List.mem_of_getElem? h2;rw[h2]at hi
   split at hi
   ·have e:{ r0 with attrs:=V,al:=al } = r:=by simpa using hi
    rw[<-e];exact hV
   ·have e:r0=r:=by simpa using hi
    rw[<-e];exact ah_ (h.attrs r0 hm) f (fun g hg e=>aU_ (h.attrs r0 hm) h.row (by decide) hg (by rw[e];rfl))
theorem a9_.setA(T:am_)(s:Nat)(V:Value)(al:List BB):a9_ T (T.setA s V al):=a9_.modS T s (fun r=>rfl)
theorem Fits.setA{T:am_}{m:aa_}{pos:Nat->Nat}(F:Fits T m pos){h:Nat}(hh:has m h=true)(V:Value){f:G.Node->G.Node}{al:List BB}(hf:∀x,f x={ x with attrs:=(f x).attrs })(hal:al=(f (nd m h)).attrs):Fits (T.setA (pos h) V al) (upd m h f) pos:=by
 have hlt:=F.lt h hh;have L:=a9_.setA T (pos h) V al;have hsl:∀i,has m i=true->(T.setA (pos h) V al).sl (pos i)=if i=h then { T.sl (pos i)with attrs:=V,al:=al } else T.sl (pos i):=fun i hi=>bP_ F (a9_.refl T) hi hh _
 refine F.sett hh (fun x=>by rw[hf x];exact⟨rfl,rfl,rfl,rfl,rfl⟩) ⟨L.bs,L.st,L.len,L.frees,L.live,L.root,L.used,fun i hi=>?_,fun i hi=>?_,fun i hi=>?_⟩
 ·rw[hsl i hi];split<;>exact⟨rfl,rfl,rfl,rfl,rfl,rfl,rfl⟩
 ·rw[hsl i hi]
  by_cases e:i=h
  ·rw[if_pos e,if_pos e];exact hal
  ·rw[if_neg e,if_neg e]
 ·rw[hsl i hi]
  by_cases e:i=h
  ·rw[if_pos e,if_pos e,hf,e];exact F.data h hh
  ·rw[if_neg e,if_neg e]
theorem fn_{w:World}{T:am_}(h:ac_ a5_ T.B 210 10 w (.slice (some ⟨T.g,0,none⟩) T.slots.length T.cap) T.slots){s:Nat}(hs:s<T.slots.length)(V:Value)(al:List BB) :
  ac_ a5_ T.B 210 10 (w.setCell ⟨T.g,s*10+3,none⟩ V) (.slice (some ⟨T.g,0,none⟩) (T.setA s V al).slots.length T.cap) (T.setA s V al).slots:=
 ac_.store bq_ h hs (by omega) V (fun r=>{ r with attrs:=V,al:=al }) rfl
theorem k0_(T:am_)(s:Nat)(V1 V2:Value)(a1 a2:List BB):(T.setA s V1 a1).setA s V2 a2=T.setA s V2 a2:=by
 unfold am_.setA am_.modS;have e:(T.slots.modify s fun r=>{ r with attrs:=V1,al:=a1 }).modify s (fun r=>{ r with attrs:=V2,al:=a2 })=T.slots.modify s fun r=>{ r with attrs:=V2,al:=a2 }:=by
  refine List.ext_getElem? fun i=>?_;rw[List.getElem?_modify,List.getElem?_modify,List.getElem?_modify]
  cases T.slots[i]? with
  |none=>simp
  |some r=>by_cases h:s=i<;>simp[h]
 dsimp only;rw[e]
def mK_(z:Int)(nm old:List UInt8)(had:Bool):Array Value:=#[.int .i64 3,.int .i64 z,.int .i64 0,.int .i64 0,.int .i64 0,.int .i64 0,.string ⟨nm.toArray⟩,.string ⟨old.toArray⟩,.bool had,.int .i64 0,.int .i64 0]
theorem fo_{T:am_}{pos:Nat->Nat}{base:Nat}{w:World}{cs:Array Value}{r:Rec}(hc:cs=(aB_ T pos r).toArray)(hb:base<=w.heap.size):ax_ T pos base (w.alloc (.cells cs 73)) (.slice (some ⟨w.heap.size,0,none⟩) 1 1) [r]:=by
 have hown:=World.ownsRow_lit (e:=73) (base:=base) (size:=11) w (aB_ T pos r).toArray 1 hb (by unfold maxLen;omega) (by simp[dg_]);unfold ax_ ac_;rw[hc,show[r].flatMap (aB_ T pos)=aB_ T pos r by simp];simpa using hown
theorem hs_(T:am_)(z:Int)(nm vl:List UInt8)(w:World)(hT:al_ w T)(hz:-9223372036854775808<=z)(hz2:z<=9223372036854775807)(hp:T.ptr 1 z=none) :
  Calls Tryz.prog 65 #[.pointer (some ⟨T.tb,0,none⟩),.int .i64 z,.string ⟨nm.toArray⟩,.string ⟨vl.toArray⟩] w fun e w'=>e=.returned (.tuple #[.slice none 0 0,.int .i64 6])/\Below w.heap.size w w':=by
 have Q1:=hi_ (e9_ T z w hT hz hz2 hp);clear hT hp
 go_enter Tryz.func65,Tryz.ntmps65
 go_wp2_with fail
 refine Q1.out.mono ?_;rintro e w2 ⟨rfl,hb2⟩;go_wp2_with fail
 exact bodyPost_ret (v:=.tuple #[.slice none 0 0,.int .i64 6]) (by simp[results,Tryz.results65,go_sem]) rfl ⟨rfl,hb2⟩
theorem mE_(T:am_)(m:aa_)(pos:Nat->Nat)(h:Nat)(nm vl:List UInt8)(w:World)(hT:aj_ w T m pos)(hh:has m h=true)(hl:(nd m h).attrs.length<=1000)(hn:nm.length<=100000)(hv:vl.length<=100000)(hTb:fi_ w) :
  Calls Tryz.prog 65 #[.pointer (some ⟨T.tb,0,none⟩),.int .i64 (hd T pos h),.string ⟨nm.toArray⟩,.string ⟨vl.toArray⟩] w fun e w'=>∃v T',e=.returned (.tuple #[v,.int .i64 ((aD_ (some 64) m h nm vl).2.1:Nat)])/\H.Frame (fun k=>k=T.g) w w'/\a9_ T T'/\aj_ w' T' (aD_ (some 64) m h nm vl).2.2 pos/\ax_ T pos w.heap.size w' v (aD_ (some 64) m h nm vl).1:=by
 have hF:=hT.fits;have hpl:=hF.lt h hh;have HT:=hi_ hT;have Q1:=hi_ (jE_ T m pos h w hT hh);have QN:=hi_ (fun W (hW:Below w.heap.size w W)=>N.attrName_ nm W hn (hTb.below hW));have QR:=hi_ (fun W (hW:Below w.heap.size w W)=>g1_ vl W (by omega) (hTb.below hW));have QD:=hi_ (fun W (hW:Below w.heap.size w W)=>n0_ T m pos h nm W (hT.below hW) hh (by omega));have hrl:=fB_ vl;have hlong:decide (1048576<(U.rep vl).length)=false:=decide_eq_false (by omega);have QL:=hi_ (fun W=>N.long_ (U.rep vl) W);rw[hlong]at QL;obtain⟨ao,cap,hav⟩:=aw_.slice (hT.attrs hh);rw[hF.attrs h hh]at hav;have HA:=hi_ (fun W (hW:Below w.heap.size w W)=>(show aw_ W (.slice ao (nd m h).attrs.length cap) (nd m h).attrs from by
  have h1:=(hT.below hW).attrs hh;rw[hF.attrs h hh,hav]at h1;exact h1))
 have HK:=hi_ (fun W (hW:Below w.heap.size w W)=>(show W.cell? ⟨T.g,pos h*10+3,none⟩=some (.slice ao (nd m h).attrs.length cap)from by
  rw[<-hav];exact((hT.below hW).cell hh (k:=3) (by omega)).1))
 have HKf:=hi_ (fun W (hW:Below w.heap.size w W)=>((hT.below hW).cell hh (k:=3) (by omega)).2);have HSC:=hi_ (gY_ m h nm vl);obtain⟨R,hR⟩:∃R,R=aD_ (some 64) m h nm vl:=⟨_,rfl⟩;rw[<-hR]at HSC ⊢;clear hT hR hTb hav hlong
 go_enter Tryz.func65,Tryz.ntmps65
 go_wp2_with fail
 refine Q1.out.mono ?_;rintro e w1 ⟨⟨hk,rfl⟩|⟨hk,rfl⟩,hb1⟩
 ·have HB1:=hi_ hb1
  have HKd:=hi_ hk;generalize hho:bK_ nm=ho at *;have HHo:=hi_ hho;clear hb1 hk hho Q1;go_wp2_with fail
  refine(QN.out _ HB1.out).mono ?_;rintro e w2 ⟨rfl,hb2⟩;have HB2:=bt_ HB1 hb2;clear hb2
  cases ho with
  |false=>
   have HRr:=hi_ (HSC.out.2.1 HKd.out rfl);go_wp2_with fail
   refine bodyPost_ret (v:=.tuple #[.slice none 0 0,.int .i64 1]) (by simp[results,Tryz.results65,go_sem]) rfl ⟨.slice none 0 0,T,by rw[HRr.out];rfl,H.Frame.of HB2.out,a9_.refl T,by rw[HRr.out];exact HT.out.below HB2.out,by rw[HRr.out];exact ax_.nil _ _ _ _⟩
  |true=>
   have HS3:=hi_ (fun i=>HSC.out.2.2.1 i HKd.out rfl);have HS4:=hi_ (HSC.out.2.2.2.1 HKd.out rfl);have HS5:=hi_ (HSC.out.2.2.2.2 HKd.out rfl);clear HSC;go_wp2_with fail
   refine(QR.out _ HB2.out).mono ?_;rintro e w3 ⟨rfl,hb3⟩;have HB3:=bt_ HB2 hb3;clear hb3;go_wp2_with fail
   refine(QD.out _ HB3.out).mono ?_;rintro e w4 ⟨rfl,hb4⟩;have HB4:=bt_ HB3 hb4;have k3:=HK.out w4 HB4.out;have hgl:=(ae_ (HT.out.below HB4.out).mem.row).1;clear hb4;obtain⟨rv,hrv⟩:∃rv,rv=U.rep vl:=⟨_,rfl⟩;rw[<-hrv]at HS3 HS5 QL ⊢;have HRv:=hi_ (show rv.length<=1000000 by rw[hrv];omega);clear hrv hrl
   cases hat:bN_ m h nm with
   |none=>
    have HAt:=hi_ hat;rw[show g9_ (none:Option Nat)=-1 from rfl];go_wp2_with fail
    refine(QL.out _).mono ?_;rintro e w4' ⟨rfl,rfl⟩;generalize hll:(nd m h).attrs=l at *;have HLl:=hi_ hll;clear hll hat
    by_cases h64:64<=l.length
    ·have h64':(64:Int)<=(l.length:Int):=by omega
     have HRr:=hi_ (HS4.out HAt.out h64);clear h64;go_wp2_with fail
     refine bodyPost_ret (v:=.tuple #[.slice none 0 0,.int .i64 5]) (by simp[results,Tryz.results65,go_sem]) rfl ⟨.slice none 0 0,T,by rw[HRr.out];rfl,H.Frame.of HB4.out,a9_.refl T,by rw[HRr.out];exact HT.out.below HB4.out,by rw[HRr.out];exact ax_.nil _ _ _ _⟩
    ·have h64':¬(64:Int)<=(l.length:Int):=by omega
     have HRr:=hi_ (HS5.out HAt.out h64);have HB5:=hi_ (HB4.out.alloc HB4.out.size (.cells (mK_ (hd T pos h) nm [] false) 73));have HR5:=hi_ (Blk.new w4 (mK_ (hd T pos h) nm [] false) 73);have QC:=hi_ (dz_ _ l _ (HA.out _ HB5.out) (by omega));have k5:=HK.out _ HB5.out;unfold mK_ at QC HB5 HR5 k5;clear h64;go_wp2_with fail
     refine QC.out.mono ?_;rintro e w6 ⟨V1,rfl,hr6,hb6⟩;have HB6:=bt_ HB5 hb6;have HR6:=hi_ (HR5.out.below hb6);have hr6':=b8_ hr6 HB5.out.size;obtain⟨bo,bcap,hV1⟩:=fr_ hr6';subst hV1;have k6:=HK.out w6 HB6.out;have f6:=HKf.out w6 HB6.out;have hg6:=(ae_ (HT.out.below HB6.out).mem.row).1;have HRow6:=hi_ (HT.out.below HB6.out).mem.row;have HV6:=hi_ hr6';have hne6:(Value.slice bo l.length bcap).ownBlock≠some T.g:=fun e=>aU_ HV6.out HRow6.out (by decide) e rfl;have HV7:=hi_ (au_ HV6.out hne6 (pos h*10+3) (.slice bo l.length bcap));have HRow7:=hi_ (fn_ HRow6.out hpl (.slice bo l.length bcap) l);have HF7:=hi_ (frG (g:=T.g) (H.Frame.of HB6.out) (pos h*10+3) (.slice bo l.length bcap));have hr4:w4.heap.size≠T.g:=by omega
     have HR7:=hi_ (HR6.out.far hr4 (pos h*10+3) (.slice bo l.length bcap));obtain⟨i0,hi0,hz0,hz1,hz2⟩:=info_parts g8_;have hll7:l.length<=1000:=hl;have hsz7:w.heap.size<=w6.heap.size:=HB6.out.size;clear hr6 hr6' hb6 QC HB5 HR5;go_wp2_with (at_builtin;refine wpList_append_lies _ rfl _ _ 124 rfl w.heap.size 142 i0 _ 2 32 Tryz.underlying124 hi0 hz0 hz1 hz2 rfl (by decide) (.slice bo l.length bcap) l.length (l.flatMap ai_) rfl (HV7.out.alloc _) ⟨w6.heap.size,0,none⟩ 1 1 (ai_ (nm,rv)) rfl rfl ?c1 ?c2 ?c3 ?c4 ?c5 ?c6 (w6.heap.size+1) ?c7 ?_)
     case c1=>
      have h1:=World.news_of_block (cs:=(ai_ (nm,rv)).toArray) (heap_alloc_new (w6.setCell ⟨T.g,pos h*10+3,none⟩ (.slice bo l.length bcap)) (.cells (ai_ (nm,rv)).toArray 142));rw[show(w6.setCell ⟨T.g,pos h*10+3,none⟩ (.slice bo l.length bcap)).heap.size=w6.heap.size by simp[World.setCell]]at h1;exact h1
     case c2=>exact co_ (l:=[(nm,rv)])
     case c3=>omega
     case c4=>unfold maxLen;omega
     case c5=>omega
     case c6=>simp[World.setCell];omega
     case c7=>simp[World.setCell]
     intro gg cap2 w8 hown8 hgrow hat8 hlt8;have hgrow':((w6.setCell ⟨T.g,pos h*10+3,none⟩ (.slice bo l.length bcap)).alloc (.cells (ai_ (nm,rv)).toArray 142)).grownBy w8 (Value.slice bo l.length bcap).ownBlock:=hgrow;have HV8:=hi_ (show aw_ w8 (.slice (some ⟨gg,0,none⟩) (l.length+1) cap2) (l++[(nm,rv)])from by
      unfold aw_ ac_;rw[List.flatMap_append,show[(nm,rv)].flatMap ai_=ai_ (nm,rv) by simp,List.length_append];exact b8_ hown8 (Nat.zero_le _))
     have hrow8:=ah_ (HRow7.out.alloc (.cells (ai_ (nm,rv)).toArray 142)) (Frame.of_grown hgrow') (fun k hk e=>aU_ HRow7.out HV7.out (by decide) hk e);have HF8:=hi_ (Frame.grown (S:=fun k=>k=T.g) (HF7.out.alloc (.cells (ai_ (nm,rv)).toArray 142)) hgrow' (fun k hk=>Or.inr (HV7.out.lt k hk).1));have HR8:=hi_ ((hgrow'.block w4.heap.size (by have:=HR7.out.lt;simp[World.setCell]at this ⊢;omega) (fun e=>ak_ HV7.out HR7.out (by decide) e.symm)).trans (HR7.out.alloc (.cells (ai_ (nm,rv)).toArray 142)));have hs8:pos h<(T.setA (pos h) (.slice bo l.length bcap) l).slots.length:=by rw[(a9_.setA T (pos h) (.slice bo l.length bcap) l).len];exact hpl
     obtain⟨k8,f8⟩:=ac_.cell bq_ hrow8 hs8 (k:=3) (by omega);have k8':w8.cell? ⟨T.g,pos h*10+3,none⟩=some ((T.setA (pos h) (.slice bo l.length bcap) l).slots[pos h]'hs8).attrs:=k8;have f8':w8.frozen? ⟨T.g,pos h*10+3,none⟩=false:=f8;have hrow9:=fn_ (T:=T.setA (pos h) (.slice bo l.length bcap) l) hrow8 hs8 (.slice (some ⟨gg,0,none⟩) (l.length+1) cap2) (l++[(nm,rv)]);rw[k0_]at hrow9;have hneg:(Value.slice (some ⟨gg,0,none⟩) (l.length+1) cap2).ownBlock≠some T.g:=fun e=>aU_ HV8.out hrow8 (by decide) e rfl;have hlen8:(l++[(nm,rv)]).length=l.length+1:=by simp
     have HV9:=hi_ (show aw_ (w8.setCell ⟨T.g,pos h*10+3,none⟩ (.slice (some ⟨gg,0,none⟩) (l.length+1) cap2)) (.slice (some ⟨gg,0,none⟩) (l.length+1) cap2) (l++[(nm,rv)])from au_ HV8.out hneg _ _);have HF9:=hi_ (frG (g:=T.g) HF8.out (pos h*10+3) (.slice (some ⟨gg,0,none⟩) (l.length+1) cap2));have HM9:=hi_ (al_.setA HT.out.mem HF9.out hrow9 HV9.out);have HFit:=hi_ (hF.setA hh (.slice (some ⟨gg,0,none⟩) (l.length+1) cap2) (f:=fun x=>{ x with attrs:=x.attrs++[(nm,rv)] }) (al:=l++[(nm,rv)]) (fun x=>rfl) (by rw[<-HLl.out]));have hgl8:=(ae_ hrow8).1;have hrl8:=lt_of_block HR8.out
     obtain⟨⟨r0,r1,r2,r3,r4,r5,r6,r7,r8,r9,r10⟩,_⟩:=bm_ (show Blk w4.heap.size #[.int .i64 3,.int .i64 (hd T pos h),.int .i64 0,.int .i64 0,.int .i64 0,.int .i64 0,.string ⟨nm.toArray⟩,.string ⟨#[]⟩,.bool false,.int .i64 0,.int .i64 0] 73 w8 from HR8.out);have hr4':¬w4.heap.size=T.g:=hr4;have hr4'':¬T.g=w4.heap.size:=fun e=>hr4 e.symm;clear k8 f8 hrow8 hrow9 hgrow hgrow' hown8 hat8;go_wp2_with fail
     have hz8:(w8.setCell ⟨T.g,pos h*10+3,none⟩ (.slice (some ⟨gg,0,none⟩) (l.length+1) cap2)).heap.size=w8.heap.size:=by simp[World.setCell]
     have hrec:=fo_ (T:=T) (pos:=pos) (base:=w.heap.size) (w:=w8.setCell ⟨T.g,pos h*10+3,none⟩ (.slice (some ⟨gg,0,none⟩) (l.length+1) cap2)) (r:=bg_ h nm [] false) rfl HF9.out.size;rw[hz8]at hrec;refine bodyPost_ret (v:=.tuple #[.slice (some ⟨w8.heap.size,0,none⟩) 1 1,.int .i64 0]) (by simp[results,Tryz.results65,go_sem]) rfl ⟨_,T.setA (pos h) (.slice (some ⟨gg,0,none⟩) (l.length+1) cap2) (l++[(nm,rv)]),by rw[HRr.out];rfl,HF9.out.alloc _,a9_.setA _ _ _ _,?_,?_⟩
     ·rw[HRr.out]
      exact⟨HM9.out.below ((br_).alloc (nl_) _),HFit.out⟩
     ·rw[HRr.out]
      exact hrec
   |some i=>
    have HRr:=hi_ (HS3.out i hat);rw[show g9_ (some i)=(i:Int)from rfl];obtain⟨hil,hnm,old,hold⟩:∃hil:i<(nd m h).attrs.length,((nd m h).attrs[i]'hil).1=nm/\∃old,((nd m h).attrs[i]'hil).2=old:=by
     unfold bN_ at hat;rw[List.findIdx?_eq_some_iff_getElem]at hat;obtain⟨h1,h2,_⟩:=hat;exact⟨h1,by simpa using h2,_,rfl⟩
    have HOld:Hid ((((nd m h).attrs[i]?.map (·.2)).getD [])=old):=hi_ (by rw[List.getElem?_eq_getElem hil];exact hold);have HSet:Hid ((nd m h).attrs.modify i (fun a=>(a.1,rv))=(nd m h).attrs.set i (nm,rv)):=hi_ (by
     refine List.ext_getElem? fun j=>?_;rw[List.getElem?_modify,List.getElem?_set]
     by_cases e:i=j
     ·subst e
      rw[List.getElem?_eq_getElem hil];simp[hil,hnm]
     ·simp[e])
    generalize hll:(nd m h).attrs=l at *;have HLl:=hi_ hll;have hiI:(i:Int)<(l.length:Int):=by omega
    have hi0:¬(i:Int)<0:=by omega
    have HIl:=hi_ hil;clear hll hat HS3 HS4 HS5;go_wp2_with fail
    refine(QL.out _).mono ?_;rintro e w4' ⟨rfl,rfl⟩;have HB5:=hi_ (HB4.out.alloc HB4.out.size (.cells (mK_ (hd T pos h) nm [] false) 73));have HR5:=hi_ (Blk.new w4 (mK_ (hd T pos h) nm [] false) 73);have QC:=hi_ (dz_ _ l _ (HA.out _ HB5.out) (by omega));have k5:=HK.out _ HB5.out;unfold mK_ at QC HB5 HR5 k5;go_wp2_with fail
    refine QC.out.mono ?_;rintro e w6 ⟨V1,rfl,hr6,hb6⟩;have HB6:=bt_ HB5 hb6;have HR6:=hi_ (HR5.out.below hb6);have hr6':=b8_ hr6 HB5.out.size;obtain⟨cg,bcap,hV1,hcg1,hcg2,hcg3⟩:=a1_ hr6' (by omega);subst hV1;have hcgb:w4.heap.size+1<=cg:=by have:=(hr6.lt cg rfl).1;simpa using this
    have k6:=HK.out w6 HB6.out;have f6:=HKf.out w6 HB6.out;have hg6:=(ae_ (HT.out.below HB6.out).mem.row).1;have HRow6:=hi_ (HT.out.below HB6.out).mem.row;have HV6:=hi_ (show ac_ ai_ w.heap.size 142 2 w6 (.slice (some ⟨cg,0,none⟩) l.length bcap) l from hr6');have hne6:(Value.slice (some ⟨cg,0,none⟩) l.length bcap).ownBlock≠some T.g:=fun e=>aU_ HV6.out HRow6.out (by decide) e rfl;have hcgT:¬cg=T.g:=fun e=>hne6 (by rw[e];rfl);have hTcg:¬T.g=cg:=fun e=>hcgT e.symm;have hr4:w4.heap.size≠T.g:=by omega
    have hr4':¬w4.heap.size=T.g:=hr4;have hr4'':¬T.g=w4.heap.size:=fun e=>hr4 e.symm;have hr5:¬w4.heap.size=cg:=by omega
    have hr5':¬cg=w4.heap.size:=by omega
    obtain⟨c0,cf0⟩:=ac_.cell aq_ HV6.out hil (k:=0) (by omega);obtain⟨c1,cf1⟩:=ac_.cell aq_ HV6.out hil (k:=1) (by omega);have c1':w6.cell? ⟨cg,i*2+1,none⟩=some (.string ⟨old.toArray⟩):=by rw[c1,<-hold];rfl
    have HR6c:=HR6.out;obtain⟨⟨r0,r1,r2,r3,r4,r5,r6,r7,r8,r9,r10⟩,⟨q0,q1,q2,q3,q4,q5,q6,q7,q8,q9,q10⟩⟩:=bm_ HR6c;have hrl6:=HR6.out.lt;have nR:=ak_ HRow6.out HR6.out (by decide);have nV:=ak_ HV6.out HR6.out (by decide);have nC:(Value.slice (some ⟨T.g,0,none⟩) T.slots.length T.cap).ownBlock≠some cg:=fun e=>aU_ HRow6.out HV6.out (by decide) e rfl;have hF10:H.Frame (fun k=>k=T.g) w ((((w6.setCell ⟨T.g,pos h*10+3,none⟩ (.slice (some ⟨cg,0,none⟩) l.length bcap)).setCell ⟨w4.heap.size,7,none⟩ (.string ⟨old.toArray⟩)).setCell ⟨w4.heap.size,8,none⟩ (.bool true)).setCell ⟨cg,i*2+1,none⟩ (.string ⟨rv.toArray⟩)):=
     Frame.set (Frame.set (Frame.set (frG (g:=T.g) (H.Frame.of HB6.out) (pos h*10+3) _) (Or.inr HB4.out.size) 7 _) (Or.inr HB4.out.size) 8 _) (Or.inr hcg1) (i*2+1) _
    have hrow10:=au_ (au_ (au_ (fn_ HRow6.out hpl (.slice (some ⟨cg,0,none⟩) l.length bcap) (l.set i (nm,rv))) nR 7 (.string ⟨old.toArray⟩)) nR 8 (.bool true)) nC (i*2+1) (.string ⟨rv.toArray⟩);have hV10:=ac_.store (c:=ai_) aq_ (au_ (au_ (au_ HV6.out hne6 (pos h*10+3) (.slice (some ⟨cg,0,none⟩) l.length bcap)) nV 7 (.string ⟨old.toArray⟩)) nV 8 (.bool true)) (i:=i) (k:=1) HIl.out (by omega) (.string ⟨rv.toArray⟩) (fun a=>(a.1,rv)) rfl;rw[HSet.out]at hV10;have hlm:(l.set i (nm,rv)).length=l.length:=by simp
    rw[hlm]at hV10;have hV10':=dw_ hV10;have HM10:=hi_ (al_.setA HT.out.mem hF10 hrow10 hV10');have HF10:=hi_ hF10;have HFit:=hi_ (hF.setA hh (.slice (some ⟨cg,0,none⟩) l.length bcap) (f:=fun x=>{ x with attrs:=x.attrs.set i (nm,rv) }) (al:=l.set i (nm,rv)) (fun x=>rfl) (by rw[<-HLl.out]));clear hr6 hr6' hb6 QC HB5 HR5 HR6c c0 c1 cf0 hold hnm nR nV nC hF10 hrow10 hV10 hV10' hlm;go_wp2_with fail
    have hz:((((w6.setCell ⟨T.g,pos h*10+3,none⟩ (.slice (some ⟨cg,0,none⟩) l.length bcap)).setCell ⟨w4.heap.size,7,none⟩ (.string ⟨old.toArray⟩)).setCell ⟨w4.heap.size,8,none⟩ (.bool true)).setCell ⟨cg,i*2+1,none⟩ (.string ⟨rv.toArray⟩)).heap.size=w6.heap.size:=by simp[World.setCell]
    have hrec:=fo_ (T:=T) (pos:=pos) (base:=w.heap.size) (w:=(((w6.setCell ⟨T.g,pos h*10+3,none⟩ (.slice (some ⟨cg,0,none⟩) l.length bcap)).setCell ⟨w4.heap.size,7,none⟩ (.string ⟨old.toArray⟩)).setCell ⟨w4.heap.size,8,none⟩ (.bool true)).setCell ⟨cg,i*2+1,none⟩ (.string ⟨rv.toArray⟩)) (r:=bg_ h nm old true) rfl HF10.out.size;rw[hz]at hrec;rw[HOld.out]at HRr;refine bodyPost_ret (v:=.tuple #[.slice (some ⟨w6.heap.size,0,none⟩) 1 1,.int .i64 0]) (by simp[results,Tryz.results65,go_sem]) rfl ⟨_,T.setA (pos h) (.slice (some ⟨cg,0,none⟩) l.length bcap) (l.set i (nm,rv)),by rw[HRr.out];rfl,HF10.out.alloc _,a9_.setA _ _ _ _,?_,?_⟩
    ·rw[HRr.out]
     exact⟨HM10.out.below ((br_).alloc (nl_) _),HFit.out⟩
    ·rw[HRr.out]
     exact hrec
 ·have HRr:=hi_ (HSC.out.1 hk)
  have HB1:=hi_ hb1;clear hk hb1;go_wp2_with fail
  refine bodyPost_ret (v:=.tuple #[.slice none 0 0,.int .i64 10]) (by simp[results,Tryz.results65,go_sem]) rfl ⟨.slice none 0 0,T,by rw[HRr.out];rfl,H.Frame.of HB1.out,a9_.refl T,by rw[HRr.out];exact HT.out.below HB1.out,by rw[HRr.out];exact ax_.nil _ _ _ _⟩
end A
end
end Go.Proofs.YtinphfpdfodkkaaGreatDoor
