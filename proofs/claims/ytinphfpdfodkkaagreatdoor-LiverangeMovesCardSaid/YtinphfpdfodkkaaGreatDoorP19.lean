/- Texts. -/
import Derived.Test.YtinphfpdfodkkaaGreatDoorP14
import Derived.Test.YtinphfpdfodkkaaGreatDoorP05
set_option linter.unusedVariables false
set_option linter.unusedSimpArgs false
set_option maxHeartbeats 8000000
set_option maxRecDepth 100000
namespace Go.Proofs.YtinphfpdfodkkaaGreatDoor
section
open Go.RowKit Go.Sort
theorem Q.len_(s:List UInt8)(w:World)(hs:s.length<=1000000):Calls Tryz.prog 51 #[.string ⟨s.toArray⟩] w fun e w'=>e=.returned (.int .i64 ((U.pts s).length:Nat))/\Below w.heap.size w w':=by
 have h:=T.Len ⟨s.toArray⟩ w (by rw[H.aM_];omega);have e:(⟨s.toArray⟩:ByteArray).data.toList=s:=by simp
 rw[e]at h;exact h
theorem Q.slice_(s:List UInt8)(a b:Int)(w:World)(hs:s.length<=1000000)(hT:T.Tabs w):Calls Tryz.prog 54 #[.string ⟨s.toArray⟩,.int .i64 a,.int .i64 b] w fun e w'=>e=.returned (.string ⟨(U.sl (U.pts s) a.toNat b.toNat).toArray⟩)/\Below w.heap.size w w':=by
 have h:=T.Slice ⟨s.toArray⟩ a b w (by rw[H.aM_];exact hs) hT;have e:(⟨s.toArray⟩:ByteArray).data.toList=s:=by simp
 rw[e]at h;exact h
namespace A
open H G
theorem es_(m:aa_)(h:Nat)(i c:Int)(s:List UInt8) :
  ((nd m h).kind<3->replace m h i c s=([],10,m))/\(¬(nd m h).kind<3->(i<0\/((U.pts (nd m h).data).length:Int)<i\/c<0)->replace m h i c s=([],2,m)) ∧
  (¬(nd m h).kind<3->¬(i<0\/((U.pts (nd m h).data).length:Int)<i\/c<0)->∀z,z=min c.toNat ((U.pts (nd m h).data).length-i.toNat)->replace m h i c s=([⟨4,h,none,none,none,i.toNat,[],(nd m h).data,false,z,(U.pts s).length⟩],0,ch_ m h (U.splice (nd m h).data s i.toNat z))):=by
 refine⟨fun h1=>?_,fun h1 h2=>?_,fun h1 h2 z hz=>?_⟩
 ·unfold replace;rw[if_pos h1]
 ·unfold replace;rw[if_neg h1,if_pos h2]
 ·unfold replace;rw[if_neg h1,if_neg h2,hz]
theorem Fits.setD{T:am_}{m:aa_}{pos:Nat->Nat}(F:Fits T m pos){h:Nat}(hh:has m h=true)(d:List UInt8):Fits (T.modS (pos h) fun r=>{ r with data:=d }) (ch_ m h d) pos:=by
 have L:=a9_.modS T (pos h) (f:=fun r=>{ r with data:=d }) (fun r=>rfl);have hsl:∀i,has m i=true->(T.modS (pos h) fun r=>{ r with data:=d }).sl (pos i)=if i=h then { T.sl (pos i)with data:=d } else T.sl (pos i):=fun i hi=>bP_ F (a9_.refl T) hi hh _
 refine F.sett hh (f:=fun x=>{ x with data:=d }) (fun x=>⟨rfl,rfl,rfl,rfl,rfl⟩) ⟨L.bs,L.st,L.len,L.frees,L.live,L.root,L.used,fun i hi=>?_,fun i hi=>?_,fun i hi=>?_⟩
 ·rw[hsl i hi];split<;>exact⟨rfl,rfl,rfl,rfl,rfl,rfl,rfl⟩
 ·rw[hsl i hi]
  by_cases e:i=h
  ·rw[if_pos e,if_pos e,e];exact F.attrs h hh
  ·rw[if_neg e,if_neg e]
 ·rw[hsl i hi]
  by_cases e:i=h
  ·rw[if_pos e,if_pos e]
  ·rw[if_neg e,if_neg e]
theorem fy_(d s:List UInt8)(i z:Nat):U.sl (U.pts d) 0 i++U.rep s++U.sl (U.pts d) (i+z) (U.pts d).length=U.splice d s i z:=by
 unfold U.sl U.splice;rw[List.drop_zero,List.take_length]
theorem gu_(d s:List UInt8)(i z:Nat):(U.splice d s i z).length<=6*d.length+3*s.length:=by
 rw[<-fy_,List.length_append,List.length_append];have h1:=T.sl_length (U.pts d) 0 i;have h2:=T.sl_length (U.pts d) (i+z) (U.pts d).length;have h3:(U.pts d).flatten.length<=3*d.length:=U.gy_ d;have h4:=U.gy_ s;omega
def recD(z:Int)(i:Nat)(old:List UInt8)(c n:Nat):Array Value:=#[.int .i64 4,.int .i64 z,.int .i64 0,.int .i64 0,.int .i64 0,.int .i64 i,.string ⟨#[]⟩,.string ⟨old.toArray⟩,.bool false,.int .i64 c,.int .i64 n]
theorem hu_(T:am_)(z:Int)(i c:Int)(s:List UInt8)(w:World)(hT:al_ w T)(hz:-9223372036854775808<=z)(hz2:z<=9223372036854775807)(hp:T.ptr 1 z=none) :
  Calls Tryz.prog 69 #[.pointer (some ⟨T.tb,0,none⟩),.int .i64 z,.int .i64 i,.int .i64 c,.string ⟨s.toArray⟩] w fun e w'=>e=.returned (.tuple #[.slice none 0 0,.int .i64 6])/\Below w.heap.size w w':=by
 have Q1:=hi_ (at_ T z w hT hz hz2);rw[hp]at Q1;clear hT hp
 go_enter Tryz.func69,Tryz.ntmps69
 go_wp2_with fail
 refine Q1.out.mono ?_;rintro e w2 ⟨rfl,hb2⟩;go_wp2_with fail
 exact bodyPost_ret (v:=.tuple #[.slice none 0 0,.int .i64 6]) (by simp[results,Tryz.results69,go_sem]) rfl ⟨rfl,hb2⟩
theorem mH_(T:am_)(m:aa_)(pos:Nat->Nat)(h:Nat)(i c:Int)(s:List UInt8)(w:World)(hT:aj_ w T m pos)(hh:has m h=true)(hdl:(nd m h).data.length<=100000)(hs:s.length<=1000)(hi:-1000<=i/\i<=1000)(hc:-1000<=c/\c<=1000)(hTb:fi_ w) :
  Calls Tryz.prog 69 #[.pointer (some ⟨T.tb,0,none⟩),.int .i64 (hd T pos h),.int .i64 i,.int .i64 c,.string ⟨s.toArray⟩] w fun e w'=>∃v T',e=.returned (.tuple #[v,.int .i64 ((replace m h i c s).2.1:Nat)])/\H.Frame (fun k=>k=T.g) w w'/\a9_ T T'/\aj_ w' T' (replace m h i c s).2.2 pos/\ax_ T pos w.heap.size w' v (replace m h i c s).1:=by
 have hF:=hT.fits;have hfew:=hT.mem.few;have hpl:=hF.lt h hh;have HT:=hi_ hT;have hbj:=bA_ hfew hF hh;have hpj:=aP_ (T:=T) (pos:=pos) h;have Q1:=hi_ (at_ T (hd T pos h) w hT.mem (by omega) (by omega));rw[bH_ hfew hF hh 1]at Q1;have HK:=hi_ (fun W (hb:Below w.heap.size w W)=>(show W.cell? ⟨T.g,pos h*10+1,none⟩=some (.int .i64 ((nd m h).kind:Nat))/\W.cell? ⟨T.g,pos h*10+4,none⟩=some (.string ⟨(nd m h).data.toArray⟩)/\W.frozen? ⟨T.g,pos h*10+4,none⟩=false/\T.g<W.heap.size from by
  refine⟨?_,?_,((hT.below hb).cell hh (k:=4) (by omega)).2,(ae_ (hT.below hb).mem.row).1⟩
  ·rw[((hT.below hb).cell hh (k:=1) (by omega)).1,<-hF.kind h hh];rfl
  ·rw[((hT.below hb).cell hh (k:=4) (by omega)).1,<-hF.data h hh];rfl))
 have hk4:(nd m h).kind<=4:=by
  rcases Nat.eq_zero_or_pos h with h0|h0
  ·rw[h0,hF.wf.doc.2.1];omega
  ·exact(hF.wf.kinds h (aR_ hh) h0).2
 have QL:=hi_ (fun W=>Q.len_ (nd m h).data W (by omega));have QR:=hi_ (fun W (hW:Below w.heap.size w W)=>g1_ s W (by omega) (hTb.below hW));have QS:=hi_ (fun(a b:Int) W (hW:Below w.heap.size w W)=>Q.slice_ (nd m h).data a b W (by omega) (hTb.below hW));have HSC:=hi_ (es_ m h i c s);have HSp:=hi_ (fun i z=>fy_ (nd m h).data s i z);have HSl:=hi_ (fun i z=>gu_ (nd m h).data s i z);have hpn:=U.cK_ (nd m h).data;have HRl:=hi_ (fB_ s);have HPr:Hid (U.pts (U.rep s)=U.pts s):=hi_ (U.eT_ s);have HFitD:=hi_ (fun d=>hF.setD hh d);obtain⟨R,hR⟩:∃R,R=replace m h i c s:=⟨_,rfl⟩;rw[<-hR]at HSC ⊢;generalize (nd m h).kind=kd at *;generalize (nd m h).data=dt at *;generalize hln:(U.pts dt).length=ln at *;have HLn:=hi_ hln;clear hT hR hTb hln
 go_enter Tryz.func69,Tryz.ntmps69
 go_wp2_with fail
 refine Q1.out.mono ?_;rintro e w1 ⟨rfl,hb1⟩;have HB1:=hi_ hb1;obtain⟨k1,k4,f4,hg1⟩:=HK.out w1 hb1;clear hb1 Q1
 by_cases c3:kd<3
 ·have HRr:=hi_ (HSC.out.1 c3)
  have e1:(((kd:Nat):Int) != 3)=true:=bne_iff_ne.2 (by omega);have e2:(((kd:Nat):Int) != 4)=true:=bne_iff_ne.2 (by omega);have e3:¬((kd:Nat):Int)=3:=by omega
  have e4:¬((kd:Nat):Int)=4:=by omega
  clear c3 HSC;go_wp2_with fail
  refine bodyPost_ret (v:=.tuple #[.slice none 0 0,.int .i64 10]) (by simp[results,Tryz.results69,go_sem]) rfl ⟨.slice none 0 0,T,by rw[HRr.out];rfl,H.Frame.of HB1.out,a9_.refl T,by rw[HRr.out];exact HT.out.below HB1.out,by rw[HRr.out];exact ax_.nil _ _ _ _⟩
 ·have HS1:=hi_ (HSC.out.2.1 c3)
  have HS2:=hi_ (HSC.out.2.2 c3);have hk34:kd=3\/kd=4:=by omega
  clear HSC c3;go_upto_region 4 with fail
  go_cut [22] (fun s22 wx=>s22=.bool false/\wx=w1)
  case first=>
   rcases hk34 with rfl|rfl
   ·go_wp2_with fail
    go_meet
    exact⟨rfl,rfl⟩
   ·go_wp2_with fail
    go_meet
    exact⟨rfl,rfl⟩
  case rest=>
   obtain⟨rfl,rfl⟩:=hcut;clear hk34 hk4;go_wp2_with fail
   refine(QL.out _).mono ?_;rintro e w2 ⟨rfl,hb2⟩;have HB2:=bt_ HB1 hb2;clear hb2 k1 k4 f4 hg1
   by_cases hbad:i<0\/((ln:Nat):Int)<i\/c<0
   ·have HRr:=hi_ (HS1.out hbad)
    have hfin:∃v T',Ending.returned (.tuple #[.slice none 0 0,.int .i64 2])=Ending.returned (.tuple #[v,.int .i64 R.2.1])/\H.Frame (fun k=>k=T.g) w w2/\a9_ T T'/\aj_ w2 T' R.2.2 pos/\ax_ T pos w.heap.size w2 v R.1:=⟨.slice none 0 0,T,by rw[HRr.out];rfl,H.Frame.of HB2.out,a9_.refl T,by rw[HRr.out];exact HT.out.below HB2.out,by rw[HRr.out];exact ax_.nil _ _ _ _⟩;have HFn:=hi_ hfin;clear hfin
    by_cases g1:i<0
    ·clear hbad
     go_wp2_with fail
     exact bodyPost_ret (v:=.tuple #[.slice none 0 0,.int .i64 2]) (by simp[results,Tryz.results69,go_sem]) rfl HFn.out
    ·by_cases g2:((ln:Nat):Int)<i
     ·clear hbad
      go_wp2_with fail
      exact bodyPost_ret (v:=.tuple #[.slice none 0 0,.int .i64 2]) (by simp[results,Tryz.results69,go_sem]) rfl HFn.out
     ·have g3:c<0:=(hbad.resolve_left g1).resolve_left g2
      clear hbad;go_wp2_with fail
      exact bodyPost_ret (v:=.tuple #[.slice none 0 0,.int .i64 2]) (by simp[results,Tryz.results69,go_sem]) rfl HFn.out
   ·obtain⟨ii,rfl⟩:∃ii:Nat,i=ii:=⟨i.toNat,by omega⟩
    obtain⟨cc,rfl⟩:∃cc:Nat,c=cc:=⟨c.toNat,by omega⟩;have g1:¬(ii:Int)<0:=by omega
    have g2:¬((ln:Nat):Int)<(ii:Int):=by omega
    have g3:¬(cc:Int)<0:=by omega
    have g2n:¬ln<ii:=by omega
    have d1:decide ((ii:Int)<0)=false:=decide_eq_false g1;have d2:decide (ln<ii)=false:=decide_eq_false g2n;have d3:decide ((cc:Int)<0)=false:=decide_eq_false g3;have d4:decide ((ln:Int)<(ii:Int))=false:=decide_eq_false g2;obtain⟨z,hz⟩:∃z,z=min cc (ln-ii):=⟨_,rfl⟩;have hRr:=HS2.out hbad z (by simpa using hz);rw[Int.toNat_natCast]at hRr;have HRr:=hi_ hRr;have wq:IntKind.i64.wrap ((ln:Int)-(ii:Int))=(ln:Int)-(ii:Int):=IntWalk.i64_in _ (by omega);have wq2:wrap64 ((ln:Int)-(ii:Int))=(ln:Int)-(ii:Int):=by unfold wrap64;omega
    have hmin:min (cc:Int) ((ln:Int)-(ii:Int))=(z:Int):=by rw[hz];omega
    have wa:IntKind.i64.wrap ((ii:Int)+(z:Int))=(ii:Int)+(z:Int):=IntWalk.i64_in _ (by omega);have wa2:wrap64 ((ii:Int)+(z:Int))=(ii:Int)+(z:Int):=by unfold wrap64;omega
    have HZ:=hi_ (show ii+z<=ln by omega);have HMin:=hi_ hmin;clear hbad hz HS1 HS2 hmin hRr;go_upto_region 9 with fail
    go_cut [3] (fun s3 wx=>s3=.int .i64 z/\wx=w2)
    case first=>
     go_wp2_with fail
     go_meet
     exact⟨congrArg (Value.int .i64) HMin.out,rfl⟩
    case rest=>
     obtain⟨rfl,rfl⟩:=hcut;clear wq wq2;go_wp2_with fail
     refine(QR.out _ HB2.out).mono ?_;rintro e w3 ⟨rfl,hb3⟩;have HB3:=bt_ HB2 hb3;obtain⟨k1,k4,f4,hg3⟩:=HK.out w3 HB3.out;have q1:=QS.out 0 (ii:Nat);have q2:=QS.out ((ii:Int)+(z:Int)) (ln:Nat);rw[Int.toNat_natCast,show(0:Int).toNat=0 from rfl]at q1;rw[Int.toNat_natCast,show((ii:Int)+(z:Int)).toNat=ii+z by rw[<-Int.natCast_add,Int.toNat_natCast]]at q2;have HQ1:=hi_ (fun W (hW:Below w3.heap.size w3 W)=>q1 W (HB3.out.trans (hW.mono HB3.out.size)));have HQ2:=hi_ (fun W (hW:Below w3.heap.size w3 W)=>q2 W (HB3.out.trans (hW.mono HB3.out.size)));have D4:=lc_ k4 hg3;have D4':∀d:Later w3.heap.size w3,d.w.cell? ⟨T.g,pos h*10+1+3,none⟩=some (.string ⟨dt.toArray⟩):=D4;have hsp:=HSp.out ii z;have hslen:=HSl.out ii z;obtain⟨sp,hspe⟩:∃sp,sp=U.splice dt s ii z:=⟨_,rfl⟩
     rw[<-hspe]at hsp hslen HRr;generalize U.sl (U.pts dt) 0 ii=p1 at *;generalize U.sl (U.pts dt) (ii+z) ln=p2 at *;generalize hrs:U.rep s=rs at *;have HSpl:=hi_ hsp;have HSln:=hi_ hslen;have HRs:=hi_ hrs;have hl3:p1.length+rs.length+p2.length=sp.length:=by rw[<-hsp,List.length_append,List.length_append]
     have hadd1:=fun(W:World)=>run_string_add_lists (P:=Tryz.prog) W p1 rs (by omega) (by omega);have hadd2:=fun(W:World)=>run_string_add_lists (P:=Tryz.prog) W (p1++rs) p2 (by rw[List.length_append];omega) (by omega);have hz1:(p1.length:Int)+(rs.length:Int)<=9223372036854775807:=by omega
     have hz2:(p1.length:Int)+(rs.length:Int)+(p2.length:Int)<=9223372036854775807:=by omega
     have hz3:p1.length+rs.length<=9223372036854775807:=by omega
     have hz4:p1.length+rs.length+p2.length<=9223372036854775807:=by omega
     clear hb3 q1 q2 hsp hslen hspe hrs k1 hl3;go_wp2_with fail
     refine af_ (by kernel_rfl) (by kernel_rfl) ?_;repeat (go_big_quiet_step (first|(go_at_call 54;with_reducible exact Calls.later (HQ1.out _ (Later.h _)))|(go_at_call 54;with_reducible exact Calls.later (HQ2.out _ (Later.h _)))))
     refine wq_ (fun dq=>?_);rw[<-List.append_assoc,HSpl.out];have HB4:=bt_ HB3 dq.h;obtain⟨k1,k4,f4,hg4⟩:=HK.out dq.w HB4.out;generalize dq.w=w4 at *;have hlong:=N.long_ sp w4;rw[decide_eq_false (by have:=HSln.out;omega)]at hlong;have QG:=hi_ hlong;clear hlong D4 D4' k1;go_wp2_with fail
     refine QG.out.mono ?_;rintro e w4' ⟨rfl,rfl⟩;clear QG;go_upto_region 14 with fail
     have hrsl:rs.length<=1000000:=by have:=HRl.out;omega
     have hlen0:=fun W=>Q.len_ rs W hrsl;have hn:(U.pts rs).length=(U.pts s).length:=by rw[HPr.out]
     rw[hn]at hlen0;generalize hnn:(U.pts s).length=n at *;have HNn:=hi_ hnn;clear hn hnn;have HSS:Hid (∀w',Below w4.heap.size w4 w'->Below w4.heap.size w4 w'/\w'.cell? ⟨T.g,pos h*10+4,none⟩=some (.string ⟨dt.toArray⟩)):=hi_ (fun w' hB=>⟨hB,(hB.cell (p:=⟨T.g,pos h*10+4,none⟩) hg4).trans k4⟩);have QJ:Hid (∀W,(Below w4.heap.size w4 W/\W.cell? ⟨T.g,pos h*10+4,none⟩=some (.string ⟨dt.toArray⟩))->Calls Tryz.prog 51 #[.string ⟨rs.toArray⟩] W fun e w'=>e=.returned (.int .i64 n)/\Below W.heap.size W w'/\Below w4.heap.size w4 w'/\w'.cell? ⟨T.g,pos h*10+4,none⟩=some (.string ⟨dt.toArray⟩)):=hi_ (fun W hW=>(hlen0 W).mono (fun e w' he=>⟨he.1,he.2,HSS.out w' (hW.1.trans (he.2.mono hW.1.size))⟩));have HBd:=hi_ (Below.refl w4.heap.size w4).drew
     have HBx:=hi_ (show Below w4.heap.size w4 (w4.alloc (.cells #[.int .i64 0,.int .i64 0,.int .i64 0,.int .i64 0,.int .i64 0,.int .i64 0,.string ⟨#[]⟩,.string ⟨#[]⟩,.bool false,.int .i64 0,.int .i64 0] 73)).drew from ((Below.refl w4.heap.size w4).alloc (nl_) _).drew);have HZ2:Hid (w4.heap.size<=w4.heap.size):=hi_ (nl_);have HK4:=hi_ k4
     go_cut [15] (fun s15 wx=>∃A,s15=.pointer (some ⟨A,0,none⟩)/\w4.heap.size<=A/\Hid (Blk A (recD (hd T pos h) ii dt z n) 73 wx)/\Hid (Below w4.heap.size w4 wx))
     case first=>
      clear hlen0 k4 f4 hg4
      go_region_held3 (fun w'=>Below w4.heap.size w4 w'/\w'.cell? ⟨T.g,pos h*10+4,none⟩=some (.string ⟨dt.toArray⟩)) (first|with_reducible assumption|with_reducible exact HSS.out _ (HS3.out.alloc HS3.out.size _)|with_reducible exact HSS.out _ (a0_ (a0_ (a0_ (a0_ (a0_ (a0_ (a0_ (a0_ (a0_ (a0_ (a0_ HS3.out HZ2.out) HZ2.out) HZ2.out) HZ2.out) HZ2.out) HZ2.out) HZ2.out) HZ2.out) HZ2.out) HZ2.out) HZ2.out)|with_reducible exact HSS.out _ HBd.out|with_reducible exact HSS.out _ HBx.out)
       (first|(go_at_call 51;refine(QJ.out _ (by with_reducible assumption)).mono ?_;rintro e w5 ⟨rfl,b5,hS5⟩;have HS3:=hi_ hS5.1;(try (have hz:=k7_ b5;obtain⟨⟨k0,k1,k2,k3,k4,k5,k6,k7,k8,k9,k10⟩,⟨f0,f1,f2,f3,f4,f5,f6,f7,f8,f9,f10⟩⟩:=bm_ hz;have HZ:=hi_ hz;clear hz));clear b5))
      ·go_wp2_with fail
       go_meet
       exact⟨_,rfl,HS3.out.size,hi_ (Blk.new w5 (recD (hd T pos h) ii dt z n) _),hi_ (HS3.out.alloc HS3.out.size _)⟩
      ·go_wp2_with fail
       go_meet
       exact⟨_,rfl,nl_,hi_ (Blk.set11 HZ.out _ _ _ _ _ _ _ _ _ _ _),hi_ (ej_ HS3.out HZ2.out _ _ _ _ _ _ _ _ _ _ _)⟩
     case rest=>
      obtain⟨A,rfl,hA,HRA,HB5⟩:=hcut;have HB6:=bt_ HB4 HB5.out;obtain⟨k1,k4',f4',hg5⟩:=HK.out _ HB6.out;have hAT:A≠T.g:=by omega
      have hAT':¬A=T.g:=hAT;have hTA:¬T.g=A:=fun e=>hAT e.symm;have hAl:=HRA.out.lt;obtain⟨⟨r0,r1,r2,r3,r4,r5,r6,r7,r8,r9,r10⟩,_⟩:=bm_ (show Blk A #[.int .i64 4,.int .i64 (hd T pos h),.int .i64 0,.int .i64 0,.int .i64 0,.int .i64 ii,.string ⟨#[]⟩,.string ⟨dt.toArray⟩,.bool false,.int .i64 z,.int .i64 n] 73 _ from HRA.out);have HM:=hi_ (al_.store (HT.out.below HB6.out).mem hpl (k:=4) (by omega) (.string ⟨sp.toArray⟩) (fun r=>{ r with data:=sp }) rfl (fun r=>⟨rfl,rfl⟩));have HF:=hi_ (frG (g:=T.g) (H.Frame.of HB6.out) (pos h*10+4) (.string ⟨sp.toArray⟩));clear k4 f4 k1 hlen0;go_wp2_with fail
      have hz:(wc.setCell ⟨T.g,pos h*10+4,none⟩ (.string ⟨sp.toArray⟩)).heap.size=wc.heap.size:=by simp[World.setCell]
      have hrec:=fo_ (T:=T) (pos:=pos) (base:=w.heap.size) (w:=wc.setCell ⟨T.g,pos h*10+4,none⟩ (.string ⟨sp.toArray⟩)) (r:=⟨4,h,none,none,none,ii,[],dt,false,z,n⟩) rfl HF.out.size;rw[hz]at hrec;refine bodyPost_ret (v:=.tuple #[.slice (some ⟨wc.heap.size,0,none⟩) 1 1,.int .i64 0]) (by simp[results,Tryz.results69,go_sem]) rfl ⟨_,T.modS (pos h) (fun r=>{ r with data:=sp }),by rw[HRr.out];rfl,HF.out.alloc _,a9_.modS _ _ (fun r=>rfl),?_,?_⟩
      ·rw[HRr.out]
       exact⟨HM.out.below ((br_).alloc (nl_) _),HFitD.out sp⟩
      ·rw[HRr.out]
       exact hrec
end A
end
end Go.Proofs.YtinphfpdfodkkaaGreatDoor
