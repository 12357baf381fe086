/- Texts. -/
import Derived.Test.YtinphfpdfodkkaaGreatDoorS11
import Derived.Test.YtinphfpdfodkkaaGreatDoorS06
set_option linter.unusedVariables false
set_option linter.unusedSimpArgs false
set_option maxHeartbeats 8000000
set_option maxRecDepth 100000
namespace Go.Proofs.YtinphfpdfodkkaaGreatDoor
section
open Go.RowKit Go.Sort
namespace A
open H G
theorem i0_(T:am_)(z:Int)(w:World)(hT:al_ w T)(hz:-9223372036854775808<=z)(hz2:z<=9223372036854775807)(hp:T.ptr 1 z=none) :
  Calls Tryz.prog 63 #[.pointer (some ⟨T.tb,0,none⟩),.int .i64 z] w fun e w'=>e=.returned (.tuple #[.slice none 0 0,.int .i64 6])/\Below w.heap.size w w':=by
 have Q1:=hi_ (at_ T z w hT hz hz2);rw[hp]at Q1;clear hT hp
 go_enter Tryz.func63,Tryz.ntmps63
 go_wp2_with fail
 refine Q1.o.mono ?_;rintro e w2 ⟨rfl,hb2⟩;go_wp2_with fail
 exact bodyPost_ret (v:=.tuple #[.slice none 0 0,.int .i64 6]) (by simp[results,Tryz.results63,go_sem]) rfl ⟨rfl,hb2⟩
theorem remove_(T:am_)(m:aa_)(pos:Nat->Nat)(h:Nat)(w:World)(hT:ag_ w T m pos)(hh:has m h=true) :
  Calls Tryz.prog 63 #[.pointer (some ⟨T.tb,0,none⟩),.int .i64 (hd T pos h)] w fun e w'=>∃v T',e=.returned (.tuple #[v,.int .i64 ((bd_ m h).2.1:Nat)])/\H.Frame (fun k=>k=T.g) w w'/\bb_ T T'/\ag_ w' T' (bd_ m h).2.2 pos/\aD_ T pos w.heap.size w' v (bd_ m h).1:=by
 have hF:=hT.fits;have hfew:=hT.mem.few;have HT:=hi_ hT;have hbj:=bF_ hfew hF hh;have hpj:=aP_ (T:=T) (pos:=pos) h;have Q1:=hi_ (at_ T (hd T pos h) w hT.mem (by omega) (by omega));rw[bM_ hfew hF hh 1]at Q1;have HK:=hi_ (fun W (hb:Below w.heap.size w W)=>(show W.cell? ⟨T.g,pos h*10+1,none⟩=some (.int .i64 ((nd m h).kind:Nat))/\W.cell? ⟨T.g,pos h*10+5,none⟩=some (.int .i64 (hdO T pos (nd m h).parent))from by
  refine⟨?_,?_⟩
  ·rw[((hT.below hb).cell hh (k:=1) (by omega)).1,<-hF.kind h hh];rfl
  rw[((hT.below hb).cell hh (k:=5) (by omega)).1,<-hF.parent h hh];rfl))
 have QU:=hi_ (fun q (hq:(nd m h).parent=some q) W (hb:Below w.heap.size w W)=>lA_ T m pos h q W (hT.below hb) hh hq);have HR:Hd (bd_ m h=if (nd m h).kind=1 then([],10,m)else match (nd m h).parent with|none=>([],0,m)|some q=>([bm_ m h q],0,cut m h q)):=hi_ rfl;generalize bd_ m h=R at *;generalize (nd m h).kind=kh at *;clear hT
 go_enter Tryz.func63,Tryz.ntmps63
 go_wp2_with fail
 refine Q1.o.mono ?_;rintro e w2 ⟨rfl,hb2⟩;have HB2:=hi_ hb2;obtain⟨k1,k5⟩:=HK.o w2 HB2.o;clear hb2 Q1
 by_cases c1:kh=1
 ·have e1:(((kh:Nat):Int)==1)=true:=by rw[c1];rfl
  have e2:((kh:Nat):Int)=1:=by omega
  have HRr:Hd (R=([],10,m)):=hi_ (by rw[HR.o,if_pos c1]);clear c1;go_wp2_with fail
  refine bodyPost_ret (v:=.tuple #[.slice none 0 0,.int .i64 10]) (by simp[results,Tryz.results63,go_sem]) rfl ⟨.slice none 0 0,T,by rw[HRr.o];rfl,H.Frame.of HB2.o,bb_.refl T,by rw[HRr.o];exact HT.o.below HB2.o,by rw[HRr.o];exact aD_.nil _ _ _ _⟩
 have e1:(((kh:Nat):Int)==1)=false:=bn_ (by omega);have e2:¬((kh:Nat):Int)=1:=by omega
 have HR2:=hi_ HR.o;rw[if_neg c1]at HR2;clear c1
 cases hq:(nd m h).parent with
 |none=>
  rw[hq]at k5 HR2;have k5':w2.cell? ⟨T.g,pos h*10+5,none⟩=some (.int .i64 0):=k5;clear k5 hq;go_wp2_with fail
  refine bodyPost_ret (v:=.tuple #[.slice none 0 0,.int .i64 0]) (by simp[results,Tryz.results63,go_sem]) rfl ⟨.slice none 0 0,T,by rw[HR2.o];rfl,H.Frame.of HB2.o,bb_.refl T,by rw[HR2.o];exact HT.o.below HB2.o,by rw[HR2.o];exact aD_.nil _ _ _ _⟩
 |some q=>
  rw[hq]at k5 HR2;have k5':w2.cell? ⟨T.g,pos h*10+5,none⟩=some (.int .i64 (hd T pos q)):=k5;have hne1:¬hd T pos q=0:=by have:=aP_ (T:=T) (pos:=pos) q;omega
  have hne0:(hd T pos q==0)=false:=bn_ hne1;have Q2:=hi_ (QU.o q hq w2 HB2.o);clear k5 hq;go_wp2_with fail
  refine Q2.o.mono ?_;rintro e w3 ⟨T',rfl,hf3,hL,hT3⟩;have HF3:=hi_ ((H.Frame.of (S:=fun k=>k=T.g) HB2.o).trans hf3 (fun b hb=>Or.inl hb));have HL:=hi_ hL;have HT3:=hi_ hT3;have HRc:Hd (av_ T pos (bm_ m h q)=av_ T pos (bm_ m h q)):=hi_ rfl;obtain⟨rc,hrc⟩:∃rc,rc=bm_ m h q:=⟨_,rfl⟩;rw[<-hrc]at HR2 ⊢;unfold av_;clear hf3 hL hT3 Q2 hrc HRc;go_wp2_with fail
  have hown:=World.ownsRow_lit (e:=73) (base:=w.heap.size) (size:=11) w3 (av_ T pos rc).toArray 1 HF3.o.size (by unfold maxLen;omega) (by simp[d0_]);have hM:=HT3.o.mem.below ((Below.refl w3.heap.size w3).alloc (nl_) (.cells (av_ T pos rc).toArray 73));refine bodyPost_ret (v:=.tuple #[.slice (some ⟨w3.heap.size,0,none⟩) 1 1,.int .i64 0]) (by simp[results,Tryz.results63,go_sem]) rfl ⟨.slice (some ⟨w3.heap.size,0,none⟩) 1 1,T',by rw[HR2.o];rfl,HF3.o.alloc _,HL.o,by rw[HR2.o];exact⟨hM,HT3.o.fits⟩,?_⟩;rw[HR2.o];have hown':(w3.alloc (.cells (av_ T pos rc).toArray 73)).ownsRow w.heap.size 73 11 (.slice (some ⟨w3.heap.size,0,none⟩) 1 1) 1 (av_ T pos rc):=by simpa using hown
  unfold aD_ ab_;rw[show[rc].flatMap (av_ T pos)=av_ T pos rc by simp];exact hown'
end A
end
end Go.Proofs.YtinphfpdfodkkaaGreatDoor
