/- Texts. -/
import Derived.Test.YtinphfpdfodkkaaGreatDoorP13
import Derived.Test.YtinphfpdfodkkaaGreatDoorP09
set_option linter.unusedVariables false
set_option linter.unusedSimpArgs false
set_option maxHeartbeats 8000000
set_option maxRecDepth 100000
namespace Go.Proofs.YtinphfpdfodkkaaGreatDoor
section
open Go.RowKit Go.Sort
namespace A
open H G R
def am_.freed(T:am_)(s:Nat)(V:Value):am_:={ T with slots:=T.slots.set s aS_,freeV:=V,frees:=T.frees++[s],live:=T.live-1 }
theorem lo_{w:World}{T:am_}{s gf fcap:Nat}(hblk:Blk T.tb #[.int .i64 T.bs,.int .i64 T.st,.slice (some ⟨T.g,0,none⟩) T.slots.length T.cap,T.freeV,.int .i64 T.live,.int .i64 T.root] 92 w)
  (hrow:ac_ a5_ T.B 210 10 w (.slice (some ⟨T.g,0,none⟩) (T.slots.set s aS_).length T.cap) (T.slots.set s aS_)) (hfree:w.ownsRow T.B 3 1 (.slice (some ⟨gf,0,none⟩) (T.frees.length+1) fcap) (T.frees.length+1) (aE_ T.frees++[.int .i64 (s:Nat)])) (hat:∀s,s∈T.slots->aw_ w s.attrs s.al) (hlen:T.slots.length<=1000000) (hbb:T.B<=T.tb) :
  al_ ((w.setCell ⟨T.tb,3,none⟩ (.slice (some ⟨gf,0,none⟩) (T.frees.length+1) fcap)).setCell ⟨T.tb,4,none⟩ (.int .i64 (T.live-1))) (T.freed s (.slice (some ⟨gf,0,none⟩) (T.frees.length+1) fcap)):=by
 have hl:(T.slots.set s aS_).length=T.slots.length:=by simp
 have n1:=ak_ hrow hblk (by decide);have n2:=ak_ hfree hblk (by decide);have e2:aE_ T.frees++[.int .i64 s]=aE_ (T.frees++[s]):=by unfold aE_;simp
 have e3:(T.frees++[s]).length=T.frees.length+1:=by simp
 unfold am_.freed;refine⟨?_,?_,by show(T.slots.set s aS_).length<=_;omega,hbb,?_,?_⟩
 ·show Blk T.tb #[.int .i64 T.bs,.int .i64 T.st,.slice (some ⟨T.g,0,none⟩) (T.slots.set s aS_).length T.cap,_,.int .i64 (T.live-1),.int .i64 T.root] _ _
  rw[hl];exact Blk.tree4 (Blk.tree3 hblk _) _
 ·exact au_ (au_ hrow n1 _ _) n1 _ _
 ·show World.ownsRow _ T.B _ 1 _ (T.frees++[s]).length (aE_ (T.frees++[s]))
  rw[e3,<-e2];exact au_ (au_ hfree n2 _ _) n2 _ _
 ·intro q hq
  have hq:q∈T.slots.set s aS_:=hq;have h1:aw_ w q.attrs q.al:=by
   rcases List.mem_or_eq_of_mem_set hq with h|h
   ·exact hat q h
   ·rw[h]
    exact⟨rfl,Or.inl ⟨rfl,rfl⟩⟩
  have n3:=ak_ h1 hblk (by decide);exact au_ (au_ h1 n3 _ _) n3 _ _
theorem mm_(T:am_)(s:Nat)(w:World)(hT:al_ w T)(hs:s<T.slots.length)(hu:(T.sl s).used=true)(hlive:-10000000<=T.live/\T.live<=10000000)(hfl:T.frees.length<=10000000) :
  Calls Tryz.prog 133 #[.pointer (some ⟨T.tb,0,none⟩),.int .i64 (handle T.bs T.st s)] w fun e w'=>∃gf fcap,e=.returned (.bool true)/\H.Frame T.foot w w'/\al_ w' (T.freed s (.slice (some ⟨gf,0,none⟩) (T.frees.length+1) fcap))/\(T.freeV.ownBlock=some gf\/w.heap.size<=gf):=by
 have hfew:=hT.few;have hb1:=eW_ T.bs T.st s;have hb2:handle T.bs T.st s<=1000001000:=by
  have h2:=cO_ T.bs;have h3:=cO_ T.st;have h4:nrm T.st*(s:Int)<=1000*1000000:=Int.mul_le_mul h3.2 (by omega) (by omega) (by omega);unfold handle;omega
 have Q1:=hi_ (find T (handle T.bs T.st s) w hT (by omega) (by omega));have hptr:T.ptr 0 (handle T.bs T.st s)=some ⟨T.g,s*10,none⟩:=by
  unfold am_.ptr am_.at_;rw[dv_ (by omega)];dsimp only;rw[dif_pos hs,if_pos (by rw[<-gX_ hs];exact hu)];rfl
 rw[hptr]at Q1;have hsI:gc_ T.bs T.st (handle T.bs T.st s)=(s:Int):=by unfold gc_;rw[dv_ (by omega)]
 have QI:=hi_ (fun W=>index T.bs T.st (handle T.bs T.st s) W (by omega) (by omega));rw[hsI]at QI;have HT:=hi_ hT;obtain⟨fo,fcap,hFv⟩:=fr_ hT.free;obtain⟨i0,hi0,hz0,hz1,hz2⟩:=info_parts c8_;obtain⟨i1,hi1,hy0,hy1,hy2⟩:=info_parts jv_;have wl:IntKind.i64.wrap (T.live-1)=T.live-1:=IntWalk.i64_in _ (by omega);generalize handle T.bs T.st s=hh at *;have HFv:=hi_ hFv;clear hT hptr hsI hFv hu
 go_enter Tryz.func133,Tryz.ntmps133
 go_wp2_with fail
 refine Q1.out.mono ?_;rintro e w2 ⟨rfl,hb⟩;have HT2:=hi_ (HT.out.below hb);have HB2:=hi_ hb;have hlg:=(ae_ HT2.out.row).1;have hrec:=fun(k:Nat) (hk:k<10)=>ac_.cell bq_ HT2.out.row (i:=s) hs (k:=k) hk;obtain⟨z0,b0⟩:=hrec 0 (by omega);obtain⟨z1,b1⟩:=hrec 1 (by omega);obtain⟨z2,b2⟩:=hrec 2 (by omega);obtain⟨z3,b3⟩:=hrec 3 (by omega);obtain⟨z4,b4⟩:=hrec 4 (by omega);obtain⟨z5,b5⟩:=hrec 5 (by omega);obtain⟨z6,b6⟩:=hrec 6 (by omega);obtain⟨z7,b7⟩:=hrec 7 (by omega);obtain⟨z8,b8⟩:=hrec 8 (by omega);obtain⟨z9,b9⟩:=hrec 9 (by omega);obtain⟨ro,rn,rcap,hra⟩:∃ro rn rcap,T.slots[s].attrs=.slice ro rn rcap:=by
  obtain⟨ro,rcap,h⟩:=aw_.slice (HT2.out.attrs T.slots[s] (List.getElem_mem hs));exact⟨ro,_,rcap,h⟩
 simp only[a5_,List.getElem?_cons_zero,List.getElem?_cons_succ,Nat.add_zero,hra]at z0 z1 z2 z3 z4 z5 z6 z7 z8 z9 b0;generalize T.slots[s]=rs at *;clear hrec hb Q1;go_wp2_with fail
 change Code.wp _ _ _ _ (World.setCells w2 T.g (s*10) (a5_ aS_));have hne:T.tb≠T.g:=fun e=>ak_ HT2.out.row HT2.out.blk (by decide) (by rw[e];rfl);have hkeep:∀{B:Nat} {e:TypeId} {size n:Nat} {v:Value} {xs:List Value},World.ownsRow w2 B e size v n xs->e≠210->World.ownsRow (World.setCells w2 T.g (s*10) (a5_ aS_)) B e size v n xs:=fun {B e size n v xs} h1 h2=>
  e6_ (fun e=>aU_ h1 HT2.out.row h2 e rfl) _ _ _ h1
 have HBk5:=hi_ (dJ_ hne (a5_ aS_) (s*10) w2 HT2.out.blk);have HR5:=hi_ (ac_.put bq_ HT2.out.row hs aS_);have HFr5:=hi_ (hkeep HT2.out.free (by decide));have HAt5:=hi_ (fun q hq=>hkeep (HT2.out.attrs q hq) (by decide));have HF5:=hi_ (bD_ (S:=T.foot) (g:=T.g) (a5_ aS_) (s*10) w2 (Frame.of HB2.out) (Or.inl (Or.inr (Or.inl rfl))));clear hkeep z0 z1 z2 z3 z4 z5 z6 z7 z8 z9 b0 b1 b2 b3 b4 b5 b6 b7 b8 b9 hlg;generalize World.setCells w2 T.g (s*10) (a5_ aS_)=w5 at *;obtain⟨hc,hfz⟩:=ad_ HBk5.out;have d0:w5.cell? ⟨T.tb,0,none⟩=some (.int .i64 T.bs):=hc 0;have d1:w5.cell? ⟨T.tb,1,none⟩=some (.int .i64 T.st):=hc 1;have d3:w5.cell? ⟨T.tb,3,none⟩=some T.freeV:=hc 3;have htb:=HBk5.out.lt;rw[HFv.out]at d3 HFr5
 have HSS:Hid (∀w',Below w5.heap.size w5 w'->w'.cell? ⟨T.tb,0,none⟩=some (.int .i64 T.bs)/\w'.cell? ⟨T.tb,1,none⟩=some (.int .i64 T.st)):=hi_ (fun w' hB=>⟨(hB.cell (p:=⟨T.tb,0,none⟩) htb).trans d0,(hB.cell (p:=⟨T.tb,1,none⟩) htb).trans d1⟩);have HS3:Hid (∀w',Below w5.heap.size w5 w'->w'.cell? ⟨T.tb,3,none⟩=some (.slice fo T.frees.length fcap)):=hi_ (fun w' hB=>(hB.cell (p:=⟨T.tb,3,none⟩) htb).trans d3);have HBd:=hi_ (Below.refl w5.heap.size w5).drew;have HTB:=hi_ htb;have hbb:=HT2.out.bb;have hlt5:=htb;have HNo:=hi_ (ak_ HFr5.out HBk5.out (by decide));clear hc hfz
 go_cut [] (fun wx=>∃gf cap2 wq,wx=wq.setCell ⟨T.tb,3,none⟩ (.slice (some ⟨gf,0,none⟩) (T.frees.length+1) cap2)/\Hid (wq.ownsRow T.B 3 1 (.slice (some ⟨gf,0,none⟩) (T.frees.length+1) cap2) (T.frees.length+1) (aE_ T.frees++[.int .i64 s]))/\Hid (∃wp,Below w5.heap.size w5 wp/\wp.grownBy wq T.freeV.ownBlock/\(T.freeV.ownBlock=some gf\/w5.heap.size<=gf)))
 case first=>
  go_region_law
   (first
    | (go_simp
       go_at_call 158
       refine(QI.out _).mono ?_;rintro e w6 ⟨rfl,b6⟩;have HB6:=bt_ HBd b6;have hs6:=HB6.out.size;have htb6:T.tb<w6.heap.size:=by omega
       have e36:=HS3.out _ HB6.out;clear b6 hs6
       go_simp)
    | (with_reducible refine bk_ (w6.alloc (.cells #[.int .i64 s] 3)) ?_
       refine step_append_lies _ (by rfl) _ _ 39 (by rfl) T.B 3 i0 _ 1 8 Tryz.underlying39 hi0 hz0 hz1 hz2 rfl (by omega) (.slice fo T.frees.length fcap) T.frees.length (aE_ T.frees) (by rfl) (World.ownsRow.alloc (own_below HFr5.out HB6.out) _) ⟨w6.heap.size,0,none⟩ 1 1 [.int .i64 s] (by rfl) (by rfl) (World.news_of_block (cs:=#[.int .i64 s]) (heap_alloc_new w6 (.cells #[.int .i64 s] 3))) (bj_ [s]) (by omega) (by unfold maxLen;omega) (by omega) (by have:=HB6.out.size;simp<;>omega) (w6.heap.size+1) (by simp) ?_;intro gg cap2 w7 hown7 hgrow hat hlt7
       have hbk:Blk T.tb #[.int .i64 T.bs,.int .i64 T.st,.slice (some ⟨T.g,0,none⟩) T.slots.length T.cap,T.freeV,.int .i64 T.live,.int .i64 T.root] 92 w7:=(hgrow.block T.tb (by have:=HB6.out.size;simp<;>omega) (fun h=>HNo.out h.symm)).trans ((HBk5.out.below HB6.out).alloc _);obtain⟨hc7,hf7⟩:=ad_ hbk;have g3:=hf7 3 (by show 3<6;omega);have hltb:=hbk.lt;have e3:w7.cell? ⟨T.tb,3,none⟩=some T.freeV:=hc7 3;rw[HFv.out]at e3;clear hc7 hf7))
  all_goals (
   have hs6:=HB6.out.size;go_wp2_with fail
   go_meet
   exact⟨gg,cap2,w7,rfl,hi_ hown7,hi_ ⟨_,HB6.out.alloc HB6.out.size _,by rw[HFv.out];exact hgrow,by rw[HFv.out];exact hat.imp id (fun h=>by omega)⟩⟩)
 case rest=>
  obtain⟨gf,cap2,wq,rfl,HO7,hx⟩:=hcut;obtain⟨wp,hbp,hgr,hgf⟩:=hx.out;have HFg:Hid (H.Frame (fun k=>T.freeV.ownBlock=some k) wp wq):=hi_ (Frame.of_grown hgr);have HBk6:=hi_ (HBk5.out.below hbp);have HR6:=hi_ (show ac_ a5_ T.B 210 10 wp (.slice (some ⟨T.g,0,none⟩) (T.slots.set s aS_).length T.cap) (T.slots.set s aS_)from own_below HR5.out hbp);have HFr6:=hi_ (own_below HFr5.out hbp);have HAt6:=hi_ (fun q hq=>own_below (HAt5.out q hq) hbp);have HNe:Hid (∀{B:Nat} {e:TypeId} {size n:Nat} {v:Value} {xs:List Value},World.ownsRow wp B e size v n xs->e≠3->∀g,v.ownBlock=some g->¬T.freeV.ownBlock=some g):=hi_ (fun h1 h2 g hg h3=>aU_ h1 HFr6.out h2 hg (by rw[<-HFv.out];exact h3))
  have HBk7:=hi_ (HBk6.out.frame HFg.out (fun h=>ak_ HFr6.out HBk6.out (by decide) (by rw[<-HFv.out];exact h)));have HR7:=hi_ (ah_ HR6.out HFg.out (HNe.out HR6.out (by decide)));have HAt7:=hi_ (fun q hq=>ah_ (HAt6.out q hq) HFg.out (HNe.out (HAt6.out q hq) (by decide)));have HM:=hi_ (lo_ (s:=s) HBk7.out HR7.out HO7.out HAt7.out hfew hbb);have HF7:=hi_ (Frame.set (S:=T.foot) (Frame.set (S:=T.foot) (Frame.grown (S:=T.foot) (HF5.out.below_ hbp) hgr (fun k hk=>Or.inl (Or.inr (Or.inr hk)))) (Or.inl (Or.inl rfl)) 3 (.slice (some ⟨gf,0,none⟩) (T.frees.length+1) cap2)) (Or.inl (Or.inl rfl)) 4 (.int .i64 (T.live-1)));have HGf:Hid (T.freeV.ownBlock=some gf\/w.heap.size<=gf):=hi_ (hgf.imp id (fun h=>by have:=HF5.out.size;omega))
  obtain⟨hc,hfz⟩:=ad_ (Blk.tree3 HBk7.out (.slice (some ⟨gf,0,none⟩) (T.frees.length+1) cap2));have d4:=hc 4;have g4:=hfz 4 (by show 4<6;omega);have hlt8:=(Blk.tree3 HBk7.out (.slice (some ⟨gf,0,none⟩) (T.frees.length+1) cap2)).lt;simp only[List.getElem?_toArray,List.getElem?_cons_zero,List.getElem?_cons_succ]at d4;clear hc hfz hx hbp hgr hgf d0 d1 d3;generalize hwv:World.setCell wq ⟨T.tb,3,none⟩ (.slice (some ⟨gf,0,none⟩) (T.frees.length+1) cap2)=wv at *;go_wp2_with fail
  go_ret
  exact⟨gf,cap2,rfl,HF7.out,HM.out,HGf.out⟩
end A
end
end Go.Proofs.YtinphfpdfodkkaaGreatDoor
