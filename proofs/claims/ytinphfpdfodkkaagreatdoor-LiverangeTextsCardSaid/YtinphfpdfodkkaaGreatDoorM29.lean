/- Texts of the proof. -/
import Derived.Test.YtinphfpdfodkkaaGreatDoorM27
set_option linter.unusedVariables false
set_option linter.unusedSimpArgs false
set_option maxHeartbeats 8000000
set_option maxRecDepth 100000
namespace Go.Proofs.YtinphfpdfodkkaaGreatDoor
section
open Go.RowKit Go.Sort
namespace R
open H G A
theorem idx_hit{l:List (Nat×Nat)}{p:Nat×Nat}{q:Nat}(hq:q<l.length)(hp:l[q]=p)(hn:p∉l.take q):l.idxOf p=q:=by
 have h1:l=l.take q++l.drop q:=(List.take_append_drop q l).symm;have h2:l.drop q=p :: l.drop (q+1):=by rw[List.drop_eq_getElem_cons hq,hp]
 rw[h1,h2,List.idxOf_append,if_neg hn,List.idxOf_cons_self,List.length_take];omega
theorem take_miss{l:List (Nat×Nat)}{p:Nat×Nat}{q:Nat}(hq:q<l.length)(hp:l[q]≠p)(hn:p∉l.take q):p∉l.take (q+1):=by
 rw[List.take_add_one,List.getElem?_eq_getElem hq];intro h
 rcases List.mem_append.1 h with h|h
 ·exact hn h
 ·simp at h;exact hp h.symm
theorem bdN{B:Nat}{a w:World}(h:Below B a w)(n:Nat):Below B a (w.drewN n):=h.trans ⟨rfl,rfl,rfl,Nat.le_refl _,fun _ _=>rfl⟩
theorem ptB{w:World}{g:Nat}{a b:Value}{t:TypeId}(h:Blk g #[a,b] t w):w.cell? ⟨g,0,none⟩=some a/\w.cell? ⟨g,1,none⟩=some b/\g<w.heap.size:=⟨(cells_of h).1 0,(cells_of h).1 1,h.lt⟩
theorem mFindP(v:Value)(l:List (Nat×Nat))(base:Nat)(p:Nat×Nat)(w:World)(h:OwnP base w v l)(hp:p∈l)(hl:l.length<=2000000000) :
  Calls Tryz.prog 44 #[v,.agg #[.int .i64 (p.1:Nat),.int .i64 (p.2:Nat)]] w fun e w'=>e=.returned (.int .i64 (l.idxOf p:Nat))/\Below w.heap.size w w':=by
 have h0:0<l.length:=by
  rcases Nat.eq_zero_or_pos l.length with e|e
  ·rw[List.length_eq_zero_iff.1 e]at hp;cases hp
  ·exact e
 obtain⟨g,cap,hv,hgb,hgl,hcap⟩:=own_some h h0;subst hv;have hb1:Below w.heap.size w (w.alloc (.cells #[.int .i64 (p.1:Nat),.int .i64 (p.2:Nat)] 30)):=(Below.refl _ w).alloc (Nat.le_refl _) _;have HBx:=hi_ (Blk.new w #[.int .i64 (p.1:Nat),.int .i64 (p.2:Nat)] 30);have HO:=hi_ (own_below h hb1);have HB:=hi_ hb1;have HP:=hi_ hp;have hgl2:=Nat.lt_of_lt_of_le hgl hb1.size;clear hb1 h hp hgb hcap hgl
 go_enter Tryz.func44,Tryz.ntmps44
 go_wp2_with fail
 have HBe:Hid (Below w.heap.size w (w.alloc (.cells #[.int .i64 (p.1:Nat),.int .i64 (p.2:Nat)] 30))):=HB;generalize hw1:w.alloc (.cells #[.int .i64 (p.1:Nat),.int .i64 (p.2:Nat)] 30)=w1 at *;have HB0:=hi_ (Below.refl w1.heap.size w1);have hll:l.length<=2000000000:=hl;clear hw1 HB
 go_loopw [5] (fun v5 wr=>∃q:Nat,v5=.int .i64 (q:Nat)/\q<=l.length/\Hid (Below w1.heap.size w1 wr)/\Hid (p∉l.take q)) (fun v5 _=>l.length-(intOfV v5).toNat)
 case atStart=>exact⟨0,rfl,Nat.zero_le _,HB0,hi_ (by simp)⟩
 case round=>
  obtain⟨q,rfl,hq0,HBr,HM⟩:=hrel;have hlt:q<l.length:=by
   rcases Nat.lt_or_ge q l.length with h2|h2
   ·exact h2
   ·exact absurd HP.out (by have h3:=HM.out;rwa [List.take_of_length_le h2]at h3)
  have hlq:(q:Int)<(l.length:Int):=by omega
  have hr:=own_below HO.out HBr.out;have hc0:=(RecRow.cell ptV_len hr hlt (k:=0) (by omega)).1;have hc1:=(RecRow.cell ptV_len hr hlt (k:=1) (by omega)).1;obtain⟨m0,m1,m2⟩:=ptB (HBx.out.below HBr.out);have wq:IntKind.i64.wrap ((q:Int)+1)=(q:Int)+1:=IntWalk.i64_in _ (by omega);have hgr:=Nat.lt_of_lt_of_le hgl2 HBr.out.size;have hit:=hi_ (fun hp=>idx_hit hlt hp HM.out);have miss:=hi_ (fun hp=>take_miss hlt hp HM.out);generalize l[q]=x at *;obtain⟨x1,x2⟩:=x;have k0:wr.cell? ⟨g,q*2,none⟩=some (.int .i64 (x1:Nat)):=hc0;have k1:wr.cell? ⟨g,q*2+1,none⟩=some (.int .i64 (x2:Nat)):=hc1;obtain⟨p1,p2⟩:=p;clear hc0 hc1 hr hlt HM HB0
  by_cases e1:x1=p1
  ·by_cases e2:x2=p2
   ·subst e1 e2
    have HR:=hi_ (hit.out rfl);clear hit miss;go_upto_region 4 with fail
    go_quiet (fail)
    have HBq:=hi_ (bdN (HBe.out.trans (HBr.out.mono HBe.out.size)) nq);generalize wr.drewN nq=wd at *;go_wp2_with fail
    go_ret
    exact⟨ret_i64 (by rw[HR.out]),HBq.out⟩
   ·have b2:((x2:Int)==(p2:Int))=false:=beq_eq_false_iff_ne.2 (by omega)
    have b3:¬(x2:Int)=(p2:Int):=by omega
    subst e1;have HR:=hi_ (miss.out (fun e=>e2 (by injection e)));clear hit miss e2;go_upto_region 4 with fail
    go_quiet (fail)
    have HBq:=hi_ (bdN HBr.out nq);generalize wr.drewN nq=wd at *;go_wp2_with fail
    go_roundw
    case rel=>exact⟨q+1,by go_num,by omega,HBq,HR⟩
    case measure=>simp[intOfV];omega
  ·have b2:((x1:Int)==(p1:Int))=false:=beq_eq_false_iff_ne.2 (by omega)
   have b3:¬(x1:Int)=(p1:Int):=by omega
   have HR:=hi_ (miss.out (fun e=>e1 (by injection e)));clear hit miss e1;go_upto_region 4 with fail
   go_quiet (fail)
   have HBq:=hi_ (bdN HBr.out nq);generalize wr.drewN nq=wd at *;go_wp2_with fail
   go_roundw
   case rel=>exact⟨q+1,by go_num,by omega,HBq,HR⟩
   case measure=>simp[intOfV];omega
theorem mCompare(M:MMem)(a b:Nat×Nat)(w:World)(h:ModelMem w M)(W:WF M.m)(hD:Whole M.m)(hfw:M.m.length<=10000)(ha:PtOk M.m a)(hb:PtOk M.m b)(ht:top M.m a.1=top M.m b.1) :
  Calls Tryz.prog 16 #[.pointer (some ⟨M.mb,0,none⟩),.agg #[.int .i64 (a.1:Nat),.int .i64 (a.2:Nat)],.agg #[.int .i64 (b.1:Nat),.int .i64 (b.2:Nat)]] w fun e w'=>e=.returned (.int .i64 (refCmp M.m a b))/\Below w.heap.size w w':=by
 obtain⟨l,hl⟩:∃l,l=all M.m (top M.m a.1):=⟨_,rfl⟩;have hlt:=W.top_lt _ ha.1;have hma:a∈l:=by rw[hl];exact(W.mem_all _ hlt).2 ⟨W.top_contains _,ha⟩
 have hmb:b∈l:=by rw[hl];exact(W.mem_all _ hlt).2 ⟨by rw[ht];exact W.top_contains _,hb⟩
 have hll:=all_short W hD hfw hlt;have HR:Hid (refCmp M.m a b=if l.idxOf a<l.idxOf b then -1 else min (((l.idxOf a:Nat):Int)-((l.idxOf b:Nat):Int)) 1):=hi_ (by rw[hl];rfl);have hia:=List.idxOf_lt_length_of_mem hma;have hib:=List.idxOf_lt_length_of_mem hmb;have QT:=hi_ (fun W1 (hb:Below w.heap.size w W1)=>mTop M a.1 W1 (h.below hb) W (by rw[<-M.m_len];exact ha.1));have QA:=hi_ (fun W1 (hb:Below w.heap.size w W1)=>mAll M W1 (h.below hb) W hD hfw _ (top M.m a.1) W1 (Below.refl _ _) (Nat.le_refl _) (by rw[<-M.m_len];exact hlt));rw[<-hl]at hll;have hll2:l.length<=2000000000:=by omega
 have QF:=hi_ (fun v base p W1 (ho:OwnP base W1 v l) (hp:p∈l)=>mFindP v l base p W1 ho hp hll2);rw[<-hl]at QA;generalize refCmp M.m a b=R at *;generalize top M.m a.1=tp at *;have HMa:=hi_ hma;have HMb:=hi_ hmb;obtain⟨a1,a2⟩:=a;obtain⟨b1,b2⟩:=b;have hb2:Below w.heap.size w ((w.alloc (.cells #[.int .i64 (a1:Nat),.int .i64 (a2:Nat)] 30)).alloc (.cells #[.int .i64 (b1:Nat),.int .i64 (b2:Nat)] 30)):=((Below.refl w.heap.size w).alloc (Nat.le_refl _) _).alloc (by simp) _;have HA2:=hi_ ((Blk.new w #[.int .i64 (a1:Nat),.int .i64 (a2:Nat)] 30).below ((Below.refl _ _).alloc (Nat.le_refl _) (.cells #[.int .i64 (b1:Nat),.int .i64 (b2:Nat)] 30)))
 have HC2:=hi_ (Blk.new (w.alloc (.cells #[.int .i64 (a1:Nat),.int .i64 (a2:Nat)] 30)) #[.int .i64 (b1:Nat),.int .i64 (b2:Nat)] 30);rw[World.size_alloc]at HC2;have HB2:=hi_ hb2;clear hb2 h W hD hfw ha hb ht hl hlt hma hmb hll
 go_enter Tryz.func16,Tryz.ntmps16
 go_wp2_with fail
 generalize (w.alloc (.cells #[.int .i64 (a1:Nat),.int .i64 (a2:Nat)] 30)).alloc (.cells #[.int .i64 (b1:Nat),.int .i64 (b2:Nat)] 30)=w2 at *;obtain⟨m0,_,m2⟩:=ptB HA2.out;refine(QT.out w2 HB2.out).mono ?_;rintro e w2' ⟨rfl,rfl⟩;clear QT;go_wp2_with fail
 refine(QA.out w2 HB2.out).mono ?_;rintro e w3 ⟨v,rfl,hb3,hown⟩;have HA3:=hi_ (HA2.out.below hb3);have HC3:=hi_ (HC2.out.below hb3);have HB3:=bt_ HB2 hb3;have HO3:=hi_ hown;have QFa:=hi_ (fun W1 (hb:Below w3.heap.size w3 W1)=>QF.out _ _ _ W1 (own_below hown hb) HMa.out);have QFb:=hi_ (fun W1 (hb:Below w3.heap.size w3 W1)=>QF.out _ _ _ W1 (own_below hown hb) HMb.out);obtain⟨m0,m1,m2⟩:=ptB HA3.out;obtain⟨j0,j1,j2⟩:=ptB HC3.out;clear QA QF hb3 hown;have D0:=lc_ m0 m2;have D1:=lc_ m1 m2;have E0:=lc_ j0 j2;have E1:=lc_ j1 j2;go_upto_region 2 with fail
 refine wp_region_later (by kernel_rfl) (by kernel_rfl) ?_;repeat (go_big_quiet_step (first|(go_at_call_of 44 (Value.agg #[.int .i64 (a1:Nat),.int .i64 (a2:Nat)]);exact Calls.later (QFa.out _ (Later.h _)))|(go_at_call_of 44 (Value.agg #[.int .i64 (b1:Nat),.int .i64 (b2:Nat)]);exact Calls.later (QFb.out _ (Later.h _)))))
 refine wq_ (fun dq=>?_);have HB4:=bt_ HB3 dq.h;generalize dq.w=w4 at *;clear dq D0 D1 E0 E1 m0 m1 m2 j0 j1 j2 QFa QFb;generalize l.idxOf (a1,a2)=x at *;generalize l.idxOf (b1,b2)=y at *
 by_cases hxy:x<y
 ·have HF:Hid (R=-1):=hi_ (by rw[HR.out,if_pos hxy])
  have hxy2:(x:Int)<(y:Int):=by omega
  clear HR hxy;go_wp2_with fail
  go_ret
  exact⟨ret_i64 (by rw[HF.out]),HB4.out⟩
 ·have hxy2:¬(x:Int)<(y:Int):=by omega
  have HF:Hid (R=min ((x:Int)-(y:Int)) 1):=hi_ (by rw[HR.out,if_neg hxy]);have wq:IntKind.i64.wrap ((x:Int)-(y:Int))=(x:Int)-(y:Int):=IntWalk.i64_in _ (by omega);clear HR hxy;go_wp2_with fail
  go_ret
  exact⟨ret_i64 (by rw[HF.out]),HB4.out⟩
theorem mMakeElem(M:MMem)(name data:List UInt8)(v:Value)(l:List BB)(base:Nat)(w:World)(hM:ModelMem w M)(hav:RecRow acells base 143 2 w v l)(hll:l.length<=60)(hls:∀a,a∈l->a.1.length<=1000/\a.2.length<=1000)(hnm:name.length<=100000)(hlen:M.nodes.length<100000) :
  Calls Tryz.prog 59 #[.pointer (some ⟨M.mb,0,none⟩),.int .i64 2,.string ⟨name.toArray⟩,.string ⟨data.toArray⟩,v] w fun e w'=>MMakeIs w M e w' (make M.m 2 name data l):=by
 have HM:=hi_ hM;obtain⟨vo,vcap,hv⟩:=RecRow.slice hav;subst hv;have HAv:=hi_ hav;obtain⟨R,hR⟩:∃R,R=make M.m 2 name data l:=⟨_,rfl⟩;have HRr:Hid (R=if elemOk name && attrsOk l []then some (M.m++[⟨2,name,l.map repA,[],none,[],false⟩])else none):=hi_ (by rw[hR];unfold make;rw[if_pos rfl];rfl);rw[<-hR];have QE:=hi_ (fun W=>mElement name W hnm);have QH:=hi_ (fun(s:List UInt8) (hs:s.length<=1000) W=>mHeader s W (by omega));have QR:=hi_ (fun(s:List UInt8) (hs:s.length<=1000) W=>refRepairB s W (by omega));have hb1:=(Below.refl w.heap.size w).alloc (Nat.le_refl _) (.cells #[.int .i64 2,.string ⟨#[]⟩,.slice none 0 0,.string ⟨#[]⟩,.int .i64 (-1),.slice none 0 0,.bool false] 105);have HB1:=hi_ hb1
 have HX1:=hi_ (Blk.new w #[.int .i64 2,.string ⟨#[]⟩,.slice none 0 0,.string ⟨#[]⟩,.int .i64 (-1),.slice none 0 0,.bool false] 105);have HLs:=hi_ hls;clear hM hb1 hR hav hls
 go_enter Tryz.func59,Tryz.ntmps59
 go_wp2_with fail
 generalize w.alloc (.cells #[.int .i64 2,.string ⟨#[]⟩,.slice none 0 0,.string ⟨#[]⟩,.int .i64 (-1),.slice none 0 0,.bool false] 105)=w1 at *;refine(QE.out w1).mono ?_;rintro e w2 ⟨rfl,hb2⟩;have HX2:=hi_ (HX1.out.below hb2);have HB2:=bt_ HB1 hb2;clear hb2 QE HX1 HB1
 cases he:elemOk name with
 |false=>
  have HRs:Hid (R=none):=hi_ (by rw[HRr.out,he];rfl);clear he HRr;go_wp2_with fail
  refine bodyPost_ret (v:=.int .i64 1) (by simp[results,Tryz.results59,go_sem]) rfl ?_;rw[HRs.out];exact⟨M,rfl,H.Frame.of HB2.out,HM.out.below HB2.out,rfl,MLike.refl _ _⟩
 |true=>
  have HRr2:Hid (R=if attrsOk l []then some (M.m++[⟨2,name,l.map repA,[],none,[],false⟩])else none):=hi_ (by rw[HRr.out,he];rfl);have HA0:Hid (attrsOk l []=attrsOk (l.drop 0) ((l.take 0).map (·.1))):=hi_ rfl;clear he HRr;go_wp2_with fail
  go_loopw [12] (fun v12 wr=>∃(i:Nat) (bo:Option Addr) (bcap:Nat),v12=.int .i64 (i:Nat)/\i<=l.length/\Hid (Below w.heap.size w wr)/\Hid (Blk w.heap.size #[.int .i64 2,.string ⟨#[]⟩,.slice bo i bcap,.string ⟨#[]⟩,.int .i64 (-1),.slice none 0 0,.bool false] 105 wr)/\Hid (wr.ownsRow w.heap.size 143 2 (.slice bo i bcap) i (((l.take i).map repA).flatMap acells))/\Hid (attrsOk l []=attrsOk (l.drop i) ((l.take i).map (·.1))))
   (fun v12 _=>l.length-(intOfV v12).toNat)
  case atStart=>exact⟨0,none,0,rfl,Nat.zero_le _,HB2,HX2,hi_ ⟨rfl,Or.inl ⟨rfl,rfl⟩⟩,HA0⟩
  case round=>
   obtain⟨i,bo,bcap,rfl,hi,HB,HX,HO,HA⟩:=hrel;clear HA0 HX2 HB2
   rcases Nat.lt_or_ge i l.length with hlt|hge
   ·obtain⟨g0,cap',hv,hg0b,hg0l,_⟩:=own_some HAv.out (by omega)
    injection hv with e1 _ e3
    subst e1 e3;have HA2:Hid (RecRow acells base 143 2 wr (.slice (some ⟨g0,0,none⟩) l.length vcap) l):=hi_ (own_below HAv.out HB.out);have hgl:=(ownsRow_open HA2.out).1;have hc0:=(RecRow.cell acells_len HA2.out hlt (k:=0) (by omega)).1;have hc1:=(RecRow.cell acells_len HA2.out hlt (k:=1) (by omega)).1;have HTk:Hid (((l.take (i+1)).map repA).flatMap acells=((l.take i).map repA).flatMap acells++acells (repA l[i])):=hi_ (by
     rw[List.take_add_one,List.getElem?_eq_getElem hlt,List.map_append,List.flatMap_append];simp)
    have hok:=ok_from l i hlt ((l.take i).map (·.1));rw[seen_next l i hlt]at hok;have HOk:=hi_ hok;have HSn:=hi_ (fun x h=>seen_not l i x h);have HSy:=hi_ (fun k hk hkl x h=>seen_yes l i k hk hkl x h);have hsh:=HLs.out l[i] (List.getElem_mem hlt);generalize hli:l[i]=a at *;obtain⟨nm,vl⟩:=a;have HIl:=hi_ hli;clear hli;have k0:wr.cell? ⟨g0,i*2,none⟩=some (.string ⟨nm.toArray⟩):=hc0;have k1:wr.cell? ⟨g0,i*2+1,none⟩=some (.string ⟨vl.toArray⟩):=hc1;have hii:(i:Int)<(l.length:Int):=by omega
    have p0:(0:Int)<=(i:Int):=by omega
    have hsh1:nm.length<=1000:=hsh.1;have hsh2:vl.length<=1000:=hsh.2;have HK1:=hi_ k1;have Q4:=hi_ (QH.out nm hsh1 wr);clear hc0 hc1 hok hsh k1;go_wp2_with fail
    refine Q4.out.mono ?_;rintro e w4 ⟨rfl,hb4⟩;have HB4:=bt_ HB hb4;have HX4:=hi_ (HX.out.below hb4);have HO4:=hi_ (own_below HO.out hb4);have HA4:Hid (RecRow acells base 143 2 w4 (.slice (some ⟨g0,0,none⟩) l.length vcap) l):=hi_ (own_below HA2.out hb4);have hgl4:=Nat.lt_of_lt_of_le hgl hb4.size;clear k0 hgl hb4 Q4 HB HX HO HA2 HK1
    cases hho:headOk nm with
    |false=>
     have HRs:Hid (R=none):=hi_ (by rw[HRr2.out,HA.out,HOk.out,hho];rfl);clear hho;go_wp2_with fail
     refine bodyPost_ret (v:=.int .i64 1) (by simp[results,Tryz.results59,go_sem]) rfl ?_;rw[HRs.out];exact⟨M,rfl,H.Frame.of HB4.out,HM.out.below HB4.out,rfl,MLike.refl _ _⟩
    |true=>
     have HOk2:Hid (attrsOk l []=(!((l.take i).map (·.1)).contains nm && attrsOk (l.drop (i+1)) ((l.take (i+1)).map (·.1)))):=hi_ (by rw[HA.out,HOk.out,hho,Bool.true_and]);clear hho HOk HA;go_wp2_with fail
     have hwq:IntKind.i64.wrap ((i:Int)+1)=(i:Int)+1:=IntWalk.i64_in _ (by omega);have HB40:=hi_ (Below.refl w4.heap.size w4)
     go_loopw [13] (fun v13 wi=>∃k:Nat,v13=.int .i64 (k:Nat)/\k<=i/\Hid (Below w4.heap.size w4 wi)/\Hid (∀j a,j<k->l[j]?=some a->(a.1==nm)=false)) (fun v13 _=>i-(intOfV v13).toNat)
     case atStart=>exact⟨0,rfl,Nat.zero_le _,HB40,hi_ (fun j a hj=>by omega)⟩
     case round=>
      obtain⟨k,rfl,hk0,HBi,HN⟩:=hrel;have HAi:=hi_ (own_below HA4.out HBi.out);have hgli:=Nat.lt_of_lt_of_le hgl4 HBi.out.size;have hc0:=(RecRow.cell acells_len HAi.out hlt (k:=0) (by omega)).1;rw[HIl.out]at hc0;have k0:wr.cell? ⟨g0,i*2,none⟩=some (.string ⟨nm.toArray⟩):=hc0;clear hc0
      rcases Nat.lt_or_ge k i with hki|hki
      ·have hkl:k<l.length:=by omega
       have hc0:=(RecRow.cell acells_len HAi.out hkl (k:=0) (by omega)).1;have HSy2:=hi_ (HSy.out k hki hkl nm);have HG:Hid (l[k]?=some l[k]):=hi_ (List.getElem?_eq_getElem hkl);generalize l[k]=b at *;obtain⟨x,y⟩:=b;have j0:wr.cell? ⟨g0,k*2,none⟩=some (.string ⟨x.toArray⟩):=hc0;have hkk:(k:Int)<(i:Int):=by omega
       have hkk2:(k:Int)<(l.length:Int):=by omega
       have q0:(0:Int)<=(k:Int):=by omega
       have wq:IntKind.i64.wrap ((k:Int)+1)=(k:Int)+1:=IntWalk.i64_in _ (by omega);have heq:((⟨x.toArray⟩:ByteArray).toList==(⟨nm.toArray⟩:ByteArray).toList)=(x==nm):=by rw[Lib.toList_data,Lib.toList_data]
       generalize (⟨x.toArray⟩:ByteArray)=X at *;generalize hSe:(⟨nm.toArray⟩:ByteArray)=S at *;clear hc0;go_upto_region 13 with fail
       cases hq:(x==nm) with
       |true=>
        rw[hq]at heq;have HRs:Hid (R=none):=hi_ (by rw[HRr2.out,HOk2.out,HSy2.out hq];rfl);clear hq HOk2 HSy2
        go_quiet (fail)
        have HBq:=hi_ (bdN (HB4.out.trans (HBi.out.mono HB4.out.size)) nq);generalize wr.drewN nq=wd at *;go_wp2_with fail
        refine bodyPost_ret (v:=.int .i64 1) (by simp[results,Tryz.results59,go_sem]) rfl ?_;rw[HRs.out];exact⟨M,rfl,H.Frame.of HBq.out,HM.out.below HBq.out,rfl,MLike.refl _ _⟩
       |false=>
        rw[hq]at heq;have HN2:Hid (∀j a,j<k+1->l[j]?=some a->(a.1==nm)=false):=hi_ (fun j a hj ha=>by
         rcases Nat.lt_or_ge j k with h|h
         ·exact HN.out j a h ha
         ·have e:j=k:=by omega
          subst e;rw[HG.out]at ha;injection ha with ha
          rw[<-ha];exact hq)
        clear hq HSy2
        go_quiet (fail)
        have HBq:=hi_ (bdN HBi.out nq);generalize wr.drewN nq=wd at *;go_wp2_with fail
        go_roundw
        case rel=>exact⟨k+1,by go_num,by omega,HBq,HN2⟩
        case measure=>simp[intOfV];omega
      ·have hke:k=i:=by omega
       subst hke;have HBw:=bt_ HB4 HBi.out;have HXw:=hi_ (HX4.out.below HBi.out);have HOw:=hi_ (own_below HO4.out HBi.out);have hc1:=(RecRow.cell acells_len HAi.out hlt (k:=1) (by omega)).1;rw[HIl.out]at hc1;have k1:wr.cell? ⟨g0,k*2+1,none⟩=some (.string ⟨vl.toArray⟩):=hc1;have HOk3:Hid (attrsOk l []=attrsOk (l.drop (k+1)) ((l.take (k+1)).map (·.1))):=hi_ (by rw[HOk2.out,HSn.out nm HN.out];rfl);obtain⟨⟨_,_,x2,_⟩,⟨_,fx2,_⟩⟩:=cells7 HXw.out;have hlX:=HXw.out.lt;have hnl:¬(k:Int)<(k:Int):=by omega
       have HlX:=hi_ hlX;have Hgl:=hi_ hgli;have HK0:=hi_ k0;have HX2c:=hi_ x2;have HNo:=hi_ (own_not HOw.out HXw.out (by decide));obtain⟨i0,hi0,hz0,hz1,hz2⟩:=info_parts infoMAttr;have HBd:=hi_ (Below.refl wr.heap.size wr).drew;clear hc1 HOk2 HSn HSy HN HX4 HO4 HB4 HA4 hgl4 HB40 hki hk0;go_upto_region 15 with fail
       go_region_law
        (first
         | (go_simp
            go_at_call 113
            refine(QR.out vl hsh2 _).mono ?_;rintro e w6 ⟨rfl,b6⟩;have HB6:=bt_ HBd b6;have hs6:=HB6.out.size;have hlE6:g0<w6.heap.size:=Nat.lt_of_lt_of_le Hgl.out hs6;have hlX6:w.heap.size<w6.heap.size:=Nat.lt_of_lt_of_le HlX.out hs6;have e60:=(HB6.out.cell (p:=⟨g0,k*2,none⟩) Hgl.out).trans HK0.out;have e62:=(HB6.out.cell (p:=⟨w.heap.size,2,none⟩) HlX.out).trans HX2c.out;clear b6 hs6
            go_simp)
         | (with_reducible refine at_world (w6.alloc (.cells #[.string ⟨nm.toArray⟩, .string ⟨(U.rep vl).toArray⟩] 143)) ?_
            refine step_append_lies _ (by rfl) _ _ 103 (by rfl) w.heap.size 143 i0 _ 2 32 Tryz.underlying103 hi0 hz0 hz1 hz2 rfl (by omega) (.slice bo k bcap) k (((l.take k).map repA).flatMap acells) (by rfl) (World.ownsRow.alloc (own_below HOw.out HB6.out) _) ⟨w6.heap.size,0,none⟩ 1 1 [.string ⟨nm.toArray⟩,.string ⟨(U.rep vl).toArray⟩] (by rfl) (by rfl) (World.news_of_block (cs:=#[.string ⟨nm.toArray⟩,.string ⟨(U.rep vl).toArray⟩]) (heap_alloc_new w6 (.cells #[.string ⟨nm.toArray⟩,.string ⟨(U.rep vl).toArray⟩] 143))) (by simp[Value.oneCell']) (by omega) (by unfold maxLen;omega) (by omega) (by have:=HB6.out.size;have:=HBw.out.size;simp<;>omega) (w6.heap.size+1) (by simp) ?_;intro gg cap2 w7 hown7 hgrow hat hlt7
            have hbk:Blk w.heap.size #[.int .i64 2,.string ⟨#[]⟩,.slice bo k bcap,.string ⟨#[]⟩,.int .i64 (-1),.slice none 0 0,.bool false] 105 w7:=(hgrow.block w.heap.size (by have:=HB6.out.size;have:=HlX.out;simp<;>omega) (fun h=>HNo.out h.symm)).trans ((HXw.out.below HB6.out).alloc _);obtain⟨⟨_,_,e72,_⟩,⟨_,g72,_⟩⟩:=cells7 hbk;have hltb:=hbk.lt))
       all_goals (
        have hs6:=HB6.out.size;have hsE:=HBw.out.size;have HB7:=hi_ (((HBw.out.trans (HB6.out.mono hsE)).alloc (by omega) _).grown hgrow (by simp;omega) (fun k e=>(HOw.out.lt k e).1));have HX8:=hi_ (Blk.n2 hbk (.slice (some ⟨gg,0,none⟩) (k+1) cap2));have HB8:=hi_ (HB7.out.setCell (p:=⟨w.heap.size,2,none⟩) (Nat.le_refl _) (.slice (some ⟨gg,0,none⟩) (k+1) cap2));have HO8:=hi_ (own_beside hown7 hbk (by decide) 2 (.slice (some ⟨gg,0,none⟩) (k+1) cap2));have HO9:Hid (World.ownsRow (w7.setCell ⟨w.heap.size,2,none⟩ (.slice (some ⟨gg,0,none⟩) (k+1) cap2)) w.heap.size 143 2 (.slice (some ⟨gg,0,none⟩) (k+1) cap2) (k+1) (((l.take (k+1)).map repA).flatMap acells)):=hi_ (by rw[HTk.out];exact HO8.out);clear HO8 HB7 hown7 hgrow hat hbk;go_wp2_with fail
        go_roundw
        case rel=>exact⟨k+1,some ⟨gg,0,none⟩,cap2,by go_num,by omega,HB8,HX8,HO9,HOk3⟩
        case measure=>simp[intOfV];omega)
   ·have hie:i=l.length:=by omega
    subst hie;have hnot:¬((l.length:Nat):Int)<((l.length:Nat):Int):=by omega
    obtain⟨x,hx⟩:∃x:MNode,x=⟨⟨2,name,l.map repA,[],none,[],false⟩,.slice bo l.length bcap,.slice none 0 0⟩:=⟨_,rfl⟩;have HXe:=hi_ hx;have HRs:Hid (R=some (M.m++[x.n])):=hi_ (by
     rw[HRr2.out,HA.out,List.drop_length,attrsOk,if_pos rfl,hx])
    have HA3:Hid (RecRow acells w.heap.size 143 2 wr x.av x.n.attrs):=hi_ (by
     have h1:=HO.out;rw[List.take_length]at h1;rw[hx];unfold RecRow;dsimp only;rw[List.length_map];exact h1)
    have HNc:Hid (ncells x=[.int .i64 2,.string ⟨name.toArray⟩,.slice bo l.length bcap,.string ⟨#[]⟩,.int .i64 (-1),.slice none 0 0,.bool false]):=hi_ (by rw[hx];rfl);obtain⟨_,⟨f1,_,_⟩⟩:=cells7 HX.out;have hlX:=HX.out.lt;have HX3:=hi_ (Blk.n1 HX.out (.string ⟨name.toArray⟩));have HB3:=hi_ (HB.out.setCell (p:=⟨w.heap.size,1,none⟩) (Nat.le_refl _) (.string ⟨name.toArray⟩));have HA4:Hid (RecRow acells w.heap.size 143 2 (World.setCell wr ⟨w.heap.size,1,none⟩ (.string ⟨name.toArray⟩)) x.av x.n.attrs):=hi_ (own_beside HA3.out HX.out (by decide) 1 _);clear hx HRr2 HA HO HA3 HX HB QH QR;go_upto_region 18 with fail
    generalize World.setCell wr ⟨w.heap.size,1,none⟩ (.string ⟨name.toArray⟩)=w3 at *;have HM3:=hi_ (HM.out.below HB3.out);obtain⟨c0,l0,l1⟩:=HM3.out.top;obtain⟨⟨a0,a1,a2,a3,a4,a5,a6⟩,_⟩:=cells7 HX3.out;have hlX3:=HX3.out.lt;have HE:=hi_ (fun w' g cap f hr hg=>push_end (w0:=w) (w:=w3) (w':=w') (M:=M) (x:=x) (g:=g) (cap:=cap) HM3.out HB3.out HM.out f (by omega) hr hg (by rw[HXe.out]) (by rw[HXe.out]));have hbb:=HM.out.bb;have hml:=HM.out.blk.lt;have hws:=HB3.out.size;have hfew:=HM.out.few;have hgm:M.mb≠M.g:=fun e=>own_not HM3.out.row HM3.out.blk (by decide) (by rw[e];rfl);have hga:∀k,x.av.ownBlock=some k->k≠M.g:=fun k hk e=>by
     have h1:=(World.ownsRow.lt HA4.out k hk).1;have h2:=(ownsRow_open HM.out.row).1;omega
    have HGm:=hi_ hgm;have HGa:=hi_ hga;obtain⟨i0,hi0,hz0,hz1,hz2⟩:=info_parts infoMNode;clear hgm hga
    go_region_law ((refine step_append_lies _ (by rfl) _ _ _ (by rfl) M.B 105 i0 _ 7 104 Tryz.underlying100 hi0 hz0 hz1 hz2 rfl (by omega) (.slice (some ⟨M.g,0,none⟩) M.nodes.length M.cap) M.nodes.length (M.nodes.flatMap ncells) (by rfl) ((World.ownsRow.alloc HM3.out.row _).drew) ⟨w3.heap.size,0,none⟩ 1 1 [.int .i64 2,.string ⟨name.toArray⟩,.slice bo l.length bcap,.string ⟨#[]⟩,.int .i64 (-1),.slice none 0 0,.bool false] (by rfl) (by rfl) (World.news_of_block (cs:=#[.int .i64 2,.string ⟨name.toArray⟩,.slice bo l.length bcap,.string ⟨#[]⟩,.int .i64 (-1),.slice none 0 0,.bool false]) (t:=105) (fr:=(0,0)) (heap_alloc_new w3 _)) (by simp[Value.oneCell']) (by omega) (by unfold maxLen;omega) (by omega) (by simp;omega) (w3.heap.size+1) (by simp) ?_;intro gg cap2 w5 hown5 hgrow hat5 hlt5;have hF5:H.Frame (fun k=>k=M.g) w3 w5:=H.Frame.grown (S:=fun k=>k=M.g) (Frame.drew (Frame.alloc (H.Frame.refl _ w3) _)) hgrow (fun k hk=>Or.inl (by have hk:some M.g=some k:=hk;injection hk with hk;exact hk.symm));have hb5:=HM3.out.blk.frame hF5 HGm.out;have d0:=(cells_of hb5).1 0;have m0:=hb5.lt;have g0:=(cells_of hb5).2 0 (by simp)))
    all_goals (
     have hA5:=own_frame HA4.out hF5 HGa.out;have hfin:=HE.out w5 gg cap2 hF5 (by rw[HNc.out];exact hown5) (hat5.imp (fun e=>by have e:some M.g=some gg:=e;injection e) (fun e=>by omega)) hA5;have HFin:=hi_ hfin;clear hfin hA5 hown5 hgrow hat5 hF5 hb5;go_wp2_with fail
     refine bodyPost_ret (v:=.int .i64 0) (by simp[results,Tryz.results59,go_sem]) rfl ?_;rw[HRs.out];exact⟨_,rfl,HFin.out.2.1,HFin.out.1,app_m M x gg cap2,HFin.out.2.2⟩)
end R
end
end Go.Proofs.YtinphfpdfodkkaaGreatDoor
