/- Texts. -/
import Derived.Test.YtinphfpdfodkkaaGreatDoorP25
import Derived.Test.YtinphfpdfodkkaaGreatDoorP19
set_option linter.unusedVariables false
set_option linter.unusedSimpArgs false
set_option maxHeartbeats 8000000
set_option maxRecDepth 100000
namespace Go.Proofs.YtinphfpdfodkkaaGreatDoor
section
open Go.RowKit Go.Sort
namespace R
open H G A
theorem rec_at3{w2 w3:World}(b:Below ((w2.alloc (.cells #[.int .i64 0,.int .i64 0,.int .i64 0,.int .i64 0,.int .i64 0,.int .i64 0,.string ⟨#[]⟩,.string ⟨#[]⟩,.bool false,.int .i64 0,.int .i64 0] 71)).drew).heap.size ((w2.alloc (.cells #[.int .i64 0,.int .i64 0,.int .i64 0,.int .i64 0,.int .i64 0,.int .i64 0,.string ⟨#[]⟩,.string ⟨#[]⟩,.bool false,.int .i64 0,.int .i64 0] 71)).drew) w3):Blk w2.heap.size #[.int .i64 0,.int .i64 0,.int .i64 0,.int .i64 0,.int .i64 0,.int .i64 0,.string ⟨#[]⟩,.string ⟨#[]⟩,.bool false,.int .i64 0,.int .i64 0] 71 w3:=
 Blk.below (w:=(w2.alloc (.cells #[.int .i64 0,.int .i64 0,.int .i64 0,.int .i64 0,.int .i64 0,.int .i64 0,.string ⟨#[]⟩,.string ⟨#[]⟩,.bool false,.int .i64 0,.int .i64 0] 71)).drew) (Blk.new w2 _ _) b
def recM(h:Nat)(i:Nat)(old:List UInt8)(c n:Nat):Array Value:=#[.int .i64 4,.int .i64 h,.int .i64 (-1),.int .i64 (-1),.int .i64 (-1),.int .i64 i,.string ⟨#[]⟩,.string ⟨old.toArray⟩,.bool false,.int .i64 c,.int .i64 n]
theorem kq_{w:World}{M:aF_}(h:ab_ w M){i:Nat}(hi:i<M.nodes.length)(d:List UInt8) :
  ab_ (w.setCell ⟨M.g,i*7+3,none⟩ (.string ⟨d.toArray⟩)) (M.modN i fun x=>{ x with n:={ x.n with data:=d } })/\(M.modN i fun x=>{ x with n:={ x.n with data:=d } }).m=ch_ M.m i d/\aO_ w M (M.modN i fun x=>{ x with n:={ x.n with data:=d } }):=by
 refine⟨h.storeP hi (by omega) (.string ⟨d.toArray⟩) _ rfl ⟨rfl,rfl,rfl,rfl⟩,d9_ M i _ (fun x=>{ x with data:=d }) (fun x=>rfl),rfl,rfl,fun k hk=>?_⟩
 rcases b2_ hi hk with h1|h1|h1
 ·exact Or.inl h1
 ·exact Or.inl (Or.inr (Or.inr ⟨_,(aF_.at_mem hi).2,Or.inl h1⟩))
 ·exact Or.inl (Or.inr (Or.inr ⟨_,(aF_.at_mem hi).2,Or.inr h1⟩))
theorem mx1:max (0:Int) 0=((0:Nat):Int):=rfl
theorem mx2(i z:Nat):max ((i:Int)+(z:Int)) 0=((i+z:Nat):Int):=by omega
theorem le_to{a b ln:Nat}(h:b=ln)(h2:a<=ln):(a:Int)<=(b:Int):=by omega
theorem len_ok{a ln b:Nat}(h:a=ln)(h2:ln<=b)(h3:b<=100000):a<=1000000:=by omega
theorem aO_.of_later{w w':World}{M M':aF_}(h:aO_ w' M M')(hs:w.heap.size<=w'.heap.size):aO_ w M M':=(aO_.refl w M).step h hs
theorem m2_(M:aF_)(h:Nat)(i c:Int)(s:List UInt8)(w:World)(hM:ab_ w M)(hh:h<M.nodes.length)(hdl:(nd M.m h).data.length<=100000)(hdr:U.rep (nd M.m h).data=(nd M.m h).data)(hs:s.length<=1000)(hi:-1000<=i/\i<=1000)(hc:-1000<=c/\c<=1000) :
  Calls Tryz.prog 70 #[.pointer (some ⟨M.mb,0,none⟩),.int .i64 h,.int .i64 i,.int .i64 c,.string ⟨s.toArray⟩] w fun e w'=>∃v M',e=.returned (.tuple #[v,.int .i64 ((replace M.m h i c s).2.1:Nat)])/\H.Frame (fun k=>k=M.g) w w'/\ab_ w' M'/\M'.m=(replace M.m h i c s).2.2/\aO_ w M M'/\aJ_ w.heap.size w' v (replace M.m h i c s).1:=by
 obtain⟨c0,l0,l1⟩:=hM.top;obtain⟨k0,_,_,k3,_,_,_⟩:=hM.cell hh;have n1:(h:Int)<(M.nodes.length:Int):=by omega
 have n0:(0:Int)<=(h:Int):=by omega
 have hfew:=hM.few;have HM:=hi_ hM;have HTop:=hi_ (fun W (hb:Below w.heap.size w W)=>(hM.below hb).top);have HCl:=hi_ (fun W (hb:Below w.heap.size w W)=>((hM.below hb).cell hh).2.2.2.1);have HFz:=hi_ (fun W (hb:Below w.heap.size w W)=>(ac_.cell aT_ (hM.below hb).row hh (k:=3) (by omega)).2);have QP:=hi_ (fun W=>iF_ (nd M.m h).data W (by omega) hdr);have QR:=hi_ (fun W=>df_ s W (by omega));have hrl:=fB_ s;have QN:=hi_ (fun W=>iF_ (U.rep s) W (by omega) (U.k6_ s));rw[U.eT_]at QN;have HSC:=hi_ (es_ M.m h i c s);have HSp:=hi_ (fun i z=>fy_ (nd M.m h).data s i z);have HSl:=hi_ (fun i z=>gu_ (nd M.m h).data s i z);have hpn:=U.cK_ (nd M.m h).data;have HFl:Hid ((U.pts (nd M.m h).data).flatten.length<=1000000):=hi_ (by
  have e:(U.pts (nd M.m h).data).flatten=(nd M.m h).data:=hdr;rw[e];omega)
 obtain⟨R,hR⟩:∃R,R=replace M.m h i c s:=⟨_,rfl⟩;rw[<-hR]at HSC ⊢;generalize (nd M.m h).kind=kd at *;generalize (nd M.m h).data=dt at *;generalize hln:(U.pts dt).length=ln at *;have HLn:=hi_ hln;clear hM hR hln hdr hrl
 go_enter Tryz.func70,Tryz.ntmps70
 by_cases c3:kd<3
 ·have HRr:=hi_ (HSC.out.1 c3)
  have e1:((kd:Nat):Int)<3:=by omega
  clear c3 HSC;go_wp2_with fail
  refine bodyPost_ret (v:=.tuple #[.slice none 0 0,.int .i64 10]) (by simp[results,Tryz.results70,go_sem]) rfl ⟨.slice none 0 0,M,by rw[HRr.out];rfl,H.Frame.refl _ _,HM.out,by rw[HRr.out],aO_.refl _ _,by rw[HRr.out];exact aJ_.nil _ _⟩
 ·have HS1:=hi_ (HSC.out.2.1 c3)
  have HS2:=hi_ (HSC.out.2.2 c3);have e1:¬((kd:Nat):Int)<3:=by omega
  clear HSC c3;go_wp2_with fail
  refine(QP.out _).mono ?_;rintro e w2 ⟨v2,rfl,hown2,hb2⟩;obtain⟨ao2,cap2,hv2,hsr2⟩:=is_ (l:=U.pts dt) (by rw[HLn.out];exact hown2);rw[HLn.out]at hv2;subst hv2;have HB2:=hi_ hb2;have HSr:=hi_ hsr2;clear hb2 hown2 hsr2 QP k0 k3
  by_cases hbad:i<0\/((ln:Nat):Int)<i\/c<0
  ·have HRr:=hi_ (HS1.out hbad)
   have hfin:∃v M',Ending.returned (.tuple #[.slice none 0 0,.int .i64 2])=Ending.returned (.tuple #[v,.int .i64 R.2.1])/\H.Frame (fun k=>k=M.g) w w2/\ab_ w2 M'/\M'.m=R.2.2/\aO_ w M M'/\aJ_ w.heap.size w2 v R.1:=⟨.slice none 0 0,M,by rw[HRr.out];rfl,H.Frame.of HB2.out,HM.out.below HB2.out,by rw[HRr.out],aO_.refl _ _,by rw[HRr.out];exact aJ_.nil _ _⟩;have HFn:=hi_ hfin;clear hfin
   by_cases g1:i<0
   ·clear hbad
    go_wp2_with fail
    exact bodyPost_ret (v:=.tuple #[.slice none 0 0,.int .i64 2]) (by simp[results,Tryz.results70,go_sem]) rfl HFn.out
   ·by_cases g2:((ln:Nat):Int)<i
    ·clear hbad
     go_wp2_with fail
     exact bodyPost_ret (v:=.tuple #[.slice none 0 0,.int .i64 2]) (by simp[results,Tryz.results70,go_sem]) rfl HFn.out
    ·have g3:c<0:=(hbad.resolve_left g1).resolve_left g2
     clear hbad;go_wp2_with fail
     exact bodyPost_ret (v:=.tuple #[.slice none 0 0,.int .i64 2]) (by simp[results,Tryz.results70,go_sem]) rfl HFn.out
  ·obtain⟨ii,rfl⟩:∃ii:Nat,i=ii:=⟨i.toNat,by omega⟩
   obtain⟨cc,rfl⟩:∃cc:Nat,c=cc:=⟨c.toNat,by omega⟩;have g1:¬(ii:Int)<0:=by omega
   have g2:¬((ln:Nat):Int)<(ii:Int):=by omega
   have g3:¬(cc:Int)<0:=by omega
   have g2n:¬ln<ii:=by omega
   have d1:decide ((ii:Int)<0)=false:=decide_eq_false g1;have d2:decide (ln<ii)=false:=decide_eq_false g2n;have d3:decide ((cc:Int)<0)=false:=decide_eq_false g3;have d4:decide ((ln:Int)<(ii:Int))=false:=decide_eq_false g2;obtain⟨z,hz⟩:∃z,z=min cc (ln-ii):=⟨_,rfl⟩;have hRr:=HS2.out hbad z (by simpa using hz);rw[Int.toNat_natCast]at hRr;have HRr:=hi_ hRr;have wq:IntKind.i64.wrap ((ln:Int)-(ii:Int))=(ln:Int)-(ii:Int):=IntWalk.i64_in _ (by omega);have wq2:wrap64 ((ln:Int)-(ii:Int))=(ln:Int)-(ii:Int):=by unfold wrap64;omega
   have hmin:min (cc:Int) ((ln:Int)-(ii:Int))=(z:Int):=by rw[hz];omega
   have wa:IntKind.i64.wrap ((ii:Int)+(z:Int))=(ii:Int)+(z:Int):=IntWalk.i64_in _ (by omega);have wa2:wrap64 ((ii:Int)+(z:Int))=(ii:Int)+(z:Int):=by unfold wrap64;omega
   have HZ:=hi_ (show ii+z<=ln by omega);have HMin:=hi_ hmin;have HLe1:=hi_ (le_to HLn.out (show ii<=ln by omega));have HLe2:=hi_ (le_to HLn.out (Nat.le_refl ln));have HLk:=hi_ (len_ok HLn.out hpn hdl);clear hbad hz HS1 HS2 hmin hRr;go_upto_region 6 with fail
   go_cut [3] (fun s3 wx=>s3=.int .i64 z/\wx=w2)
   case first=>
    go_wp2_with fail
    go_meet
    exact⟨congrArg (Value.int .i64) HMin.out,rfl⟩
   case rest=>
    obtain⟨rfl,rfl⟩:=hcut;clear wq wq2;go_wp2_with fail
    refine(QR.out _).mono ?_;rintro e w3 ⟨rfl,hb3⟩;have HB3:=bt_ HB2 hb3;have HSr3:=hi_ (HSr.out.below hb3);have hsp:=HSp.out ii z;have hslen:=HSl.out ii z;obtain⟨sp,hspe⟩:∃sp,sp=U.splice dt s ii z:=⟨_,rfl⟩;rw[<-hspe]at hsp hslen HRr;generalize hrs:U.rep s=rs at *;have HSpl:=hi_ hsp;have HSln:=hi_ hslen;have HNn:=hi_ (show(U.pts s).length=(U.pts s).length from rfl);generalize hnn:(U.pts s).length=n at *;have HNe:=hi_ hnn;obtain⟨c0,l0,l1⟩:=HTop.out w3 HB3.out;have k3:=HCl.out w3 HB3.out
    have HSS:Hid (∀w',Below w3.heap.size w3 w'->Below w3.heap.size w3 w'/\w'.cell? ⟨M.mb,0,none⟩=some (.slice (some ⟨M.g,0,none⟩) M.nodes.length M.cap)/\w'.cell? ⟨M.g,h*7+3,none⟩=some (.string ⟨dt.toArray⟩)):=hi_ (fun w' hB=>⟨hB,(hB.cell (p:=⟨M.mb,0,none⟩) l0).trans c0,(hB.cell (p:=⟨M.g,h*7+3,none⟩) l1).trans k3⟩)
    have QJ:Hid (∀W,(Below w3.heap.size w3 W/\W.cell? ⟨M.mb,0,none⟩=some (.slice (some ⟨M.g,0,none⟩) M.nodes.length M.cap)/\W.cell? ⟨M.g,h*7+3,none⟩=some (.string ⟨dt.toArray⟩))->Calls Tryz.prog 57 #[.string ⟨rs.toArray⟩] W fun e w'=>∃ao cap,e=.returned (.slice ao n cap)/\Below W.heap.size W w'/\Below w3.heap.size w3 w'/\w'.cell? ⟨M.mb,0,none⟩=some (.slice (some ⟨M.g,0,none⟩) M.nodes.length M.cap)/\w'.cell? ⟨M.g,h*7+3,none⟩=some (.string ⟨dt.toArray⟩)):=hi_ (fun W hW=>(QN.out W).mono (fun e w' he=>by
     obtain⟨v,h1,h2,h3⟩:=he;have h5:w'.ownsRow W.heap.size 9 1 v (U.pts s).length (T.strs (U.pts s)):=by rw[hnn];exact h2
     obtain⟨ao,cap,h4,_⟩:=is_ h5;rw[hnn]at h4;exact⟨ao,cap,by rw[h1,h4],h3,HSS.out w' (hW.1.trans (h3.mono hW.1.size))⟩))
    have HBd:=hi_ (Below.refl w3.heap.size w3).drew;have HBx:=hi_ (show Below w3.heap.size w3 (w3.alloc (.cells #[.int .i64 0,.int .i64 0,.int .i64 0,.int .i64 0,.int .i64 0,.int .i64 0,.string ⟨#[]⟩,.string ⟨#[]⟩,.bool false,.int .i64 0,.int .i64 0] 71)).drew from ((Below.refl w3.heap.size w3).alloc (nl_) _).drew);have HZ2:Hid (w3.heap.size<=w3.heap.size):=hi_ (nl_);clear hb3 hsp hslen hspe hrs hnn QN;go_upto_region 8 with fail
    go_cut [13] (fun s13 wx=>∃A,s13=.pointer (some ⟨A,0,none⟩)/\w3.heap.size<=A/\Hid (Blk A (recM h ii dt z n) 71 wx)/\Hid (Below w3.heap.size w3 wx))
    case first=>
     go_region_held3 (fun w'=>Below w3.heap.size w3 w'/\w'.cell? ⟨M.mb,0,none⟩=some (.slice (some ⟨M.g,0,none⟩) M.nodes.length M.cap)/\w'.cell? ⟨M.g,h*7+3,none⟩=some (.string ⟨dt.toArray⟩)) (first|with_reducible assumption|with_reducible exact HSS.out _ (HS3.out.alloc HS3.out.size _)|with_reducible exact HSS.out _ (a0_ (a0_ (a0_ (a0_ (a0_ (a0_ (a0_ (a0_ (a0_ (a0_ (a0_ HS3.out HZ2.out) HZ2.out) HZ2.out) HZ2.out) HZ2.out) HZ2.out) HZ2.out) HZ2.out) HZ2.out) HZ2.out) HZ2.out)|with_reducible exact HSS.out _ HBd.out|with_reducible exact HSS.out _ HBx.out)
      (first|(go_at_call 57;refine(QJ.out _ (by with_reducible assumption)).mono ?_;rintro e w5 ⟨ao5,cap5,rfl,b5,hS5⟩;have HS3:=hi_ hS5.1;(try (have hz:=rec_at3 b5;obtain⟨⟨r0,r1,r2,r3,r4,r5,r6,r7,r8,r9,r10⟩,⟨f0,f1,f2,f3,f4,f5,f6,f7,f8,f9,f10⟩⟩:=bm_ hz;have HZ:=hi_ hz;clear hz));clear b5))
     ·go_wp2_with fail
      go_meet
      exact⟨_,rfl,HS3.out.size,hi_ (Blk.new w5 (recM h ii dt z n) _),hi_ (HS3.out.alloc HS3.out.size _)⟩
     ·go_wp2_with fail
      go_meet
      exact⟨_,rfl,nl_,hi_ (Blk.set11 HZ.out _ _ _ _ _ _ _ _ _ _ _),hi_ (ej_ HS3.out HZ2.out _ _ _ _ _ _ _ _ _ _ _)⟩
    case rest=>
     obtain⟨A,rfl,hA,HRA,HB5⟩:=hcut;clear HSS QJ HBd HBx k3 c0 l0 l1;have HB6:=bt_ HB3 HB5.out;obtain⟨c0,l0,l1⟩:=HTop.out _ HB6.out;have f3:=HFz.out _ HB6.out;have HSr6:=hi_ (HSr3.out.below HB5.out);have D0:=lc_ c0 l0;have j1:=fun W (hW:Below wc.heap.size wc W)=>T.refJoin ao2 cap2 (U.pts dt) 0 (ii:Nat) 0 W HFl.out HLk.out (HSr6.out.below hW) mx1 HLe1.out;have j2:=fun W (hW:Below wc.heap.size wc W)=>T.refJoin ao2 cap2 (U.pts dt) ((ii:Int)+(z:Int)) (ln:Nat) (ii+z) W HFl.out HLk.out (HSr6.out.below hW) (mx2 ii z) HLe2.out;rw[HLn.out,Int.toNat_natCast]at j1 j2;have q1:=hi_ j1;have q2:=hi_ j2;have hsp:=HSpl.out;generalize U.sl (U.pts dt) 0 ii=p1 at *;generalize U.sl (U.pts dt) (ii+z) ln=p2 at *;have hl3:p1.length+rs.length+p2.length=sp.length:=by rw[<-hsp,List.length_append,List.length_append]
     have hsll:=HSln.out;have hadd1:=fun(W:World)=>run_string_add_lists (P:=Tryz.prog) W p1 rs (by omega) (by omega);have hadd2:=fun(W:World)=>run_string_add_lists (P:=Tryz.prog) W (p1++rs) p2 (by rw[List.length_append];omega) (by omega);have HSpe:=hi_ hsp;have hz3:p1.length+rs.length<=9223372036854775807:=by omega
     have hz4:p1.length+rs.length+p2.length<=9223372036854775807:=by omega
     have HDs:=hi_ (fun W (hb:ab_ W M)=>kq_ hb hh sp);have HAl:=HRA.out.lt;clear j1 j2 hsp hl3 hsll HSpl;go_upto_region 9 with fail
     refine aQ_ 18 (by kernel_rfl) (by kernel_rfl) ?_;simp only[List.take_succ_cons,List.take_zero,List.drop_succ_cons,List.drop_zero];repeat (go_big_quiet_step (first|(go_at_call_of 56 (Value.int .i64 0);with_reducible exact Calls.later_same (q1.out _ (Later.h _)))|(go_at_call 56;with_reducible exact Calls.later_same (q2.out _ (Later.h _)))))
     refine wq_ (fun dq=>?_);rw[<-List.append_assoc,HSpe.out];have HB7:=bt_ HB6 dq.h;have HRA7:=hi_ (HRA.out.below dq.h);generalize dq.w=w4 at *;clear D0 q1 q2 hadd1 hadd2 hz3 hz4 c0 l0 l1 f3;obtain⟨c0,l0,l1⟩:=HTop.out _ HB7.out;have f3:=HFz.out _ HB7.out;have k3:=HCl.out _ HB7.out;have hAG:A≠M.g:=fun e=>ak_ (HM.out.below HB7.out).row HRA7.out (by decide) (by rw[e];rfl);have hAT':¬A=M.g:=hAG;have hTA:¬M.g=A:=fun e=>hAG e.symm;have hAl:=HRA7.out.lt;obtain⟨⟨r0,r1,r2,r3,r4,r5,r6,r7,r8,r9,r10⟩,_⟩:=bm_ (show Blk A #[.int .i64 4,.int .i64 h,.int .i64 (-1),.int .i64 (-1),.int .i64 (-1),.int .i64 ii,.string ⟨#[]⟩,.string ⟨dt.toArray⟩,.bool false,.int .i64 z,.int .i64 n] 71 _ from HRA7.out);have HM8:=hi_ (HDs.out w4 (HM.out.below HB7.out))
     have HF8:=hi_ (frG (g:=M.g) (H.Frame.of HB7.out) (h*7+3) (.string ⟨sp.toArray⟩));go_wp2_with fail
     have hz:(w4.setCell ⟨M.g,h*7+3,none⟩ (.string ⟨sp.toArray⟩)).heap.size=w4.heap.size:=by simp[World.setCell]
     have hrec:=ev_ (base:=w.heap.size) (w:=w4.setCell ⟨M.g,h*7+3,none⟩ (.string ⟨sp.toArray⟩)) (r:=⟨4,h,none,none,none,ii,[],dt,false,z,n⟩) (cs:=recM h ii dt z n) rfl HF8.out.size;rw[hz]at hrec;refine bodyPost_ret (v:=.tuple #[.slice (some ⟨w4.heap.size,0,none⟩) 1 1,.int .i64 0]) (by simp[results,Tryz.results70,go_sem]) rfl ⟨_,by rw[HRr.out];rfl,HF8.out.alloc _,_,HM8.out.1.below ((br_).alloc (nl_) _),?_,aO_.of_later HM8.out.2.2 HB7.out.size,?_⟩
     ·rw[HRr.out];exact HM8.out.2.1
     ·rw[HRr.out];exact hrec
end R
end
end Go.Proofs.YtinphfpdfodkkaaGreatDoor
